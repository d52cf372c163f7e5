/- Contracts of functions of the program over the abstract semantics. -/
import Derived.Test.YtbjkifniloohcaaDoorAb9
import Derived.Shelf.SlSortCmp.WholeK
import Derived.Test.YtbjkifniloohcaaDoorProg
set_option linter.unusedVariables false
set_option linter.unusedSimpArgs false
namespace Go.Proofs
open Go.Shelf
def Tryd.sortPt_ren : Go.Shelf.Ren := ⟨fun|6 => 48|15 => 53|14 => 57|28 => 67|29 => 68|20 => 69|21 => 70|22 => 71|23 => 72|24 => 73|25 => 74|26 => 75|27 => 76|46 => 82|47 => 78|48 => 79|49 => 83|50 => 84|57 => 86|n => n, fun|22 => 35|24 => 38|25 => 81|3 => 3|39 => 65|0 => 0|53 => 115|55 => 117|4 => 4|46 => 109|45 => 108|50 => 94|5 => 5|9 => 9|66 => 123|70 => 127|76 => 131|77 => 132|n => n, fun|n => n⟩
theorem Tryd.sortPt : Go.Proofs.SlLaysF0.n6 Tryd.prog Tryd.sortPt_ren := {
 mixed := by kernel_rfl
 f6 := ⟨Tryd.f48.name, by decide, Tryd.func48.trans (congrArg some (by kernel_rfl))⟩
 f14 := ⟨Tryd.f57.name, by decide, Tryd.func57.trans (congrArg some (by kernel_rfl))⟩
 f15 := Tryd.func53.trans (congrArg some (by kernel_rfl))
 f20 := ⟨Tryd.f69.name, by decide, Tryd.func69.trans (congrArg some (by kernel_rfl))⟩
 f21 := ⟨Tryd.f70.name, by decide, Tryd.func70.trans (congrArg some (by kernel_rfl))⟩
 f22 := ⟨Tryd.f71.name, by decide, Tryd.func71.trans (congrArg some (by kernel_rfl))⟩
 f23 := ⟨Tryd.f72.name, by decide, Tryd.func72.trans (congrArg some (by kernel_rfl))⟩
 f24 := ⟨Tryd.f73.name, by decide, Tryd.func73.trans (congrArg some (by kernel_rfl))⟩
 f25 := ⟨Tryd.f74.name, by decide, Tryd.func74.trans (congrArg some (by kernel_rfl))⟩
 f26 := ⟨Tryd.f75.name, by decide, Tryd.func75.trans (congrArg some (by kernel_rfl))⟩
 f27 := ⟨Tryd.f76.name, by decide, Tryd.func76.trans (congrArg some (by kernel_rfl))⟩
 f28 := Tryd.func67.trans (congrArg some (by kernel_rfl))
 f29 := Tryd.func68.trans (congrArg some (by kernel_rfl))
 f46 := ⟨Tryd.f82.name, by decide, Tryd.func82.trans (congrArg some (by kernel_rfl))⟩
 f47 := Tryd.func78.trans (congrArg some (by kernel_rfl))
 f48 := Tryd.func79.trans (congrArg some (by kernel_rfl))
 f49 := ⟨Tryd.f83.name, by decide, Tryd.func83.trans (congrArg some (by kernel_rfl))⟩
 f50 := ⟨Tryd.f84.name, by decide, Tryd.func84.trans (congrArg some (by kernel_rfl))⟩
 f57 := ⟨Tryd.f86.name, by decide, Tryd.func86.trans (congrArg some (by kernel_rfl))⟩
 t0 := Tryd.underlying0
 a0 := Tryd.isAgg0
 z0 := Tryd.sizeOf0
 v0 := Tryd.zeroValue0
 t3 := Tryd.underlying3
 a3 := Tryd.isAgg3
 z3 := Tryd.sizeOf3
 v3 := Tryd.zeroValue3
 t4 := Tryd.underlying4
 a4 := Tryd.isAgg4
 z4 := Tryd.sizeOf4
 v4 := Tryd.zeroValue4
 t5 := Tryd.underlying5
 a5 := Tryd.isAgg5
 z5 := Tryd.sizeOf5
 v5 := Tryd.zeroValue5
 t9 := Tryd.underlying9
 a9 := Tryd.isAgg9
 z9 := Tryd.sizeOf9
 v9 := Tryd.zeroValue9
 t22 := Tryd.underlying35
 a22 := Tryd.isAgg35
 z22 := Tryd.sizeOf35
 v22 := Tryd.zeroValue35
 t25 := Tryd.underlying81
 a25 := Tryd.isAgg81
 z25 := Tryd.sizeOf81
 v25 := Tryd.zeroValue81
 t39 := Tryd.underlying65
 a39 := Tryd.isAgg65
 z39 := Tryd.sizeOf65
 v39 := Tryd.zeroValue65
 t45 := Tryd.underlying108
 a45 := Tryd.isAgg108
 z45 := Tryd.sizeOf108
 v45 := Tryd.zeroValue108
 t46 := Tryd.underlying109
 a46 := Tryd.isAgg109
 z46 := Tryd.sizeOf109
 v46 := Tryd.zeroValue109
 t50 := Tryd.underlying94
 a50 := Tryd.isAgg94
 z50 := Tryd.sizeOf94
 v50 := Tryd.zeroValue94
 t53 := Tryd.underlying115
 a53 := Tryd.isAgg115
 z53 := Tryd.sizeOf115
 v53 := Tryd.zeroValue115
 t55 := Tryd.underlying117
 a55 := Tryd.isAgg117
 z55 := Tryd.sizeOf117
 v55 := Tryd.zeroValue117
 t66 := Tryd.underlying123
 a66 := Tryd.isAgg123
 z66 := Tryd.sizeOf123
 v66 := Tryd.zeroValue123
 t70 := Tryd.underlying127
 a70 := Tryd.isAgg127
 z70 := Tryd.sizeOf127
 v70 := Tryd.zeroValue127
 t76 := Tryd.underlying131
 a76 := Tryd.isAgg131
 z76 := Tryd.sizeOf131
 v76 := Tryd.zeroValue131
 t77 := Tryd.underlying132
 a77 := Tryd.isAgg132
 z77 := Tryd.sizeOf132
 v77 := Tryd.zeroValue132 }
end Go.Proofs

namespace Go.Ab
open Go.Sort Go.Proofs
section
variable {P : Program} {G : Nat} {μ μ' : Nat -> Pl} {K K' : Nat -> Prop} {H H' : Hp} {w w' : World}
theorem Rel.congr (hR : Rel G μ K H w) (h : ∀ b bk, H.get b = some bk -> w'.heap[(μ b).blk]? = w.heap[(μ b).blk]?) : Rel G μ K H w' :=
 ⟨hR.dom, hR.lt, fun b bk hb => by rw [h b bk hb]; exact hR.blk b bk hb, hR.inj, hR.glob⟩
theorem Fr.quiet (h : Fr μ K H w μ' K' H' w') (hno : ∀ b bk, H.get b = some bk -> bk.mut = false) : ∃ q os', w' = Go.Sort.grow (w.drewN q) os' := by
 refine ⟨w'.drawn - w.drawn, w'.heap.extract w.heap.size w'.heap.size, ?_⟩
 have hheap : w'.heap = w.heap ++ w'.heap.extract w.heap.size w'.heap.size := by
  apply Array.ext_getElem?
  intro i
  by_cases hi : i < w.heap.size
  ·rw [Array.getElem?_append_left hi]
   exact h.keep i hi fun b bk hb hm => by rw [hno b bk hb] at hm; cases hm
  ·have := h.size
   rw [Array.getElem?_append_right (by omega)]
   by_cases hj : i < w'.heap.size
   ·rw [Array.getElem?_extract]
    simp
    rw [show w.heap.size + (i - w.heap.size) = i by omega]
    by_cases h2 : i - w.heap.size < w'.heap.size - w.heap.size
    ·simp [h2]
    ·omega
   ·rw [Array.getElem?_eq_none (by omega), Array.getElem?_eq_none (by simp; omega)]
 obtain ⟨h1, h2, h3, h4⟩ := h.same
 obtain ⟨hp, tp, dr, o, ou⟩ := w
 obtain ⟨hp', tp', dr', o', ou'⟩ := w'
 simp only [Go.Sort.grow, World.drewN] at *
 subst h1 h2 h3
 rw [<- hheap, show dr + (dr' - dr) = dr' by omega]
theorem ACalls.any {f : FuncId} {args : List V} {xs : List Value} {c : C} {x : Value} (h : ACalls P G f args ⟨.lf, G⟩ fun v _ => v = .one c) (hx : ∀ μ K, All2 (RV μ K) args xs) (hc : ∀ μ K y, RV μ K (.one c) y -> y = x) (W : World) : Calls P f xs.toArray W fun e w' => e = .returned x /\ ∃ q os', w' = Go.Sort.grow (W.drewN q) os' := by
 have hn : ∀ b bk, (⟨.lf, G⟩ : Hp).get b = some bk -> False := fun b bk hb => by simp [Hp.get] at hb
 have hR : Rel G (fun b => ⟨b, 0, 0⟩) (fun b => b < G) ⟨.lf, G⟩ W := ⟨fun b bk hb => (hn b bk hb).elim, fun _ h => h, fun b bk hb => (hn b bk hb).elim, fun b _ bk _ hb => (hn b bk hb).elim, fun g hg => ⟨hg, rfl, rfl⟩⟩
 refine (h _ _ W xs hR (hx _ _)).mono ?_
 rintro e w' ⟨y, rfl, v, H', μ', K', rfl, hy, _, hF⟩
 exact ⟨by rw [hc _ _ y hy], hF.quiet fun b bk hb => (hn b bk hb).elim⟩
theorem Rel.putRow (P : Program) (hR : Rel G μ K H w) {b o nb : Nat} {z : List C} {mm : T C} (hb : H.get b = some (.row nb z mm true)) {l : List C} (hst : H.stores b o l = some H') (hin : o + l.length <= nb) {F : Array Value} (hF : All2 (RC μ K) l F.toList) (m : Nat) (os : Array Obj) :
  Rel G μ K H' (Go.Sort.grow (Go.Sort.putRow id (Go.Sort.ahead w m) (μ b).blk ((μ b).off + o) F) os) /\ Fr μ K H w μ K H' (Go.Sort.grow (Go.Sort.putRow id (Go.Sort.ahead w m) (μ b).blk ((μ b).off + o) F) os) := by
 obtain ⟨cs, t, fz, h1, h2, h3, h4, h5⟩ := hR.blk b _ hb
 obtain rfl := h4 rfl
 obtain ⟨w1, hrun, hR1, hF1⟩ := Rel.stores (P := P) (i := 0) (o := o) hR (by simpa using hst) hF
 have hFl : F.toList.length = l.length := hF.len.symm
 obtain ⟨w2, cs', q1, q2, q3, q4, q5, q6, q7, q8, q9, _⟩ := store_conc (P := P) (g := (μ b).blk) (t := t) (xs := F.toList) (w := w) (cs := cs) (q := (μ b).off + o) (i := 0) h1 hF.oneC oM
 have hww : w1 = w2 := by
  have e : (storeCells ((μ b).addr o) F.toList 0).run P w = .ok () w2 := q1
  rw [hrun] at e
  cases e
  rfl
 subst hww
 have hcs : cs' = putCells id ((μ b).off + o) F cs := by
  apply Array.ext_getElem?
  intro j
  rw [q4 j]
  unfold putCells
  rw [Array.getElem?_mapIdx]
  have hs : F.size = F.toList.length := by simp
  split
  ·rename_i hj
   have hj' : j < cs.size := by omega
   rw [Array.getElem?_eq_getElem hj']
   simp only [Option.map_some]
   rw [if_pos (by omega)]
   have hk : j - ((μ b).off + o + 0) < F.size := by omega
   rw [List.getElem?_eq_getElem (by simpa using hk)]
   simp only [Nat.add_zero] at hk ⊢
   simp [getElem!_pos, hk]
  ·rename_i hj
   cases hcj : cs[j]? with
   | none => rfl
   | some y =>
    simp only [Option.map_some]
    rw [if_neg (by omega)]
 have key : ∀ i, i < w.heap.size -> (Go.Sort.grow (Go.Sort.putRow id (Go.Sort.ahead w m) (μ b).blk ((μ b).off + o) F) os).heap[i]? = w1.heap[i]? := fun i hi => by
  have hsz : (Go.Sort.putRow id (Go.Sort.ahead w m) (μ b).blk ((μ b).off + o) F).heap.size = w.heap.size := by simp [Go.Sort.ahead]
  unfold Go.Sort.grow
  simp only
  rw [Array.getElem?_append_left (by rw [hsz]; exact hi)]
  unfold Go.Sort.putRow mapBlock
  simp only [Go.Sort.ahead]
  rw [Array.getElem?_modify]
  by_cases e : (μ b).blk = i
  ·subst e
   rw [if_pos rfl, h1, q2, hcs]
   rfl
  ·rw [if_neg e, q5 i (fun h => e h.symm)]
 have hsize : (Go.Sort.grow (Go.Sort.putRow id (Go.Sort.ahead w m) (μ b).blk ((μ b).off + o) F) os).heap.size = w.heap.size + os.size := by simp [Go.Sort.grow, Go.Sort.ahead]
 refine ⟨hR1.congr fun b' bk' hb' => key _ (by have := hR1.blk_lt hb'; omega), ?_⟩
 exact ⟨⟨rfl, rfl, rfl, by simp [Go.Sort.grow, Go.Sort.ahead]⟩, by omega, fun i hi hn => (key i hi).trans (hF1.keep i hi hn), hF1.img, hF1.newmut, hF1.mu, hF1.kk, hF1.knew, hF1.nx, hF1.none, hF1.stay, hF1.ro⟩
end
end Go.Ab

namespace Go.Af
open Go.Ab Go.Proofs
set_option linter.unusedSimpArgs false
def cmpP (a b : Pt2) : Int := if before a b = true then -1 else if a = b then 0 else 1
theorem noro : ∀ b bk, (⟨.lf, 1⟩ : Hp).get b = some bk -> bk.ro = some bk := fun b bk h => by simp [Hp.get] at h
open Go.Shelf Go.RowKit Go.Lib Go.Sort
def encPt (p : Pt2) : List Value := [.int .i64 p.1, .int .i64 p.2]
theorem sb_irrefl (x : Pt2) : before x x = false := by simp [before]
theorem sb_iff (x y : Pt2) : before x y = true ↔ x.2 < y.2 \/ (x.2 = y.2 /\ x.1 < y.1) := by
 unfold before
 by_cases h1 : x.2 < y.2
 ·simp [h1]
 ·by_cases h2 : x.2 = y.2
  ·simp [h2]
  ·simp [h1, h2]
theorem ltcmp (x y : Pt2) : ltOf cmpP x y = before x y := by
 unfold ltOf cmpP
 cases h : before x y with
 | true => simp
 | false =>
  simp only [Bool.false_eq_true, if_false]
  split <;> simp
theorem swo : SWO (ltOf cmpP) where
 irrefl x := by rw [ltcmp, sb_irrefl]
 trans x y z h1 h2 := by rw [ltcmp, sb_iff] at *; omega
 ntrans x y z h1 h2 := by
  rw [ltcmp, <- Bool.not_eq_true, sb_iff] at *; omega
theorem encPt_at : ∀ (l : List Pt2) (j : Nat), j < l.length * 2 -> (l.flatMap encPt)[j]? = some (encPt (l[j / 2]!))[j % 2]!
 | [], j, h => by simp at h
 | x :: l, 0, h => rfl
 | x :: l, 1, h => rfl
 | x :: l, j + 2, h => by
  have := encPt_at l j (by simp at h; omega)
  rw [show (j + 2) / 2 = j / 2 + 1 by omega, show (j + 2) % 2 = j % 2 by omega]
  simpa [encPt] using this
theorem flat_eq (l : List Pt2) : (flatK encPt 2 l.toArray).toList = l.flatMap encPt := by
 apply List.ext_getElem?
 intro j
 by_cases hj : j < l.length * 2
 ·rw [encPt_at l j hj]
  have h1 : j < (flatK encPt 2 l.toArray).size := by simpa using hj
  rw [List.getElem?_eq_getElem (by simpa using h1)]
  have := get_flatK encPt 2 l.toArray j (by simpa using hj)
  rw [getElem!_pos _ j h1] at this
  simp only [Array.getElem_toList]
  rw [this]
  simp
 ·rw [List.getElem?_eq_none (by simp; omega), List.getElem?_eq_none]
  have : ∀ m : List Pt2, (m.flatMap encPt).length = m.length * 2 := by
   intro m
   induction m with
   | nil => rfl
   | cons x m ih => show (encPt x ++ m.flatMap encPt).length = _; rw [List.length_append, ih]; simp [encPt]; omega
  rw [this]; omega
theorem all_enc {μ : Nat -> Pl} {K : Nat -> Prop} : ∀ l : List Pt2, All2 (RC μ K) (ptsC l) (l.flatMap encPt)
 | [] => trivial
 | x :: l => ⟨rfl, rfl, all_enc l⟩
def SortedP (l : List Pt2) : Prop := ∀ (i j : Nat) (x y : Pt2), l[i]? = some x -> l[j]? = some y -> i < j -> before y x = false
theorem ptsC_len (l : List Pt2) : (ptsC l).length = l.length * 2 := by
 induction l with
 | nil => rfl
 | cons x l ih => show (ptC x ++ ptsC l).length = _; rw [List.length_append, ih]; simp [ptC]; omega
theorem ptsC_at : ∀ (l : List Pt2) (j : Nat), j < l.length * 2 -> ∃ n : Int, (ptsC l)[j]? = some (.int .i64 n) /\ (l.flatMap encPt)[j]? = some (.int .i64 n)
 | [], j, h => by simp at h
 | x :: l, 0, h => ⟨x.1, rfl, rfl⟩
 | x :: l, 1, h => ⟨x.2, rfl, rfl⟩
 | x :: l, j + 2, h => by
  obtain ⟨n, h1, h2⟩ := ptsC_at l j (by simp at h; omega)
  exact ⟨n, by simpa [ptsC, ptC] using h1, by simpa [encPt] using h2⟩
structure CmpAt (k : FuncId) : Prop where
 eg : ∀ args w, (callFunc k args).run Tryd.prog w = .ok (.enter k args) w
 calls : ∀ (x y : Pt2) (W : World), Calls Tryd.prog k #[.agg (encPt x).toArray, .agg (encPt y).toArray] W fun e w' => e = .returned (.int .i64 (cmpP x y)) /\ ∃ q os', w' = Go.Sort.grow (W.drewN q) os'
theorem cmpAt {k : FuncId} (eg : ∀ args w, (callFunc k args).run Tryd.prog w = .ok (.enter k args) w) (h : ∀ a b : Pt2, DCalls Tryd.prog 1 ⟨.lf, 1⟩ k [ptD a, ptD b] fun d => d = .int (cmpP a b)) : CmpAt k := by
 refine ⟨eg, fun x y W => ?_⟩
 have h : ACalls Tryd.prog 1 k [.agg (ptC x), .agg (ptC y)] ⟨.lf, 1⟩ fun v _ => v = .one (.int .i64 (cmpP x y)) := by
  have := h x y ⟨.lf, 1⟩ (fun _ => False) [.agg (ptC x), .agg (ptC y)] (fun b bk h => by simp [Hp.get] at h) (fun _ h => h.elim) (fun b bk h => by simp [Hp.get] at h) ⟨⟨_, rfl, .c _ rfl, .c _ rfl, trivial⟩, ⟨_, rfl, .c _ rfl, .c _ rfl, trivial⟩, trivial⟩
  refine this.mono ?_
  rintro v H' ⟨_, _, _, d, hr, rfl⟩
  obtain ⟨c, rfl, hr⟩ := hr
  cases hr
  rfl
 exact ACalls.any (xs := [.agg (encPt x).toArray, .agg (encPt y).toArray]) h (fun μ K => ⟨⟨_, rfl, rfl, rfl, trivial⟩, ⟨_, rfl, rfl, rfl, trivial⟩, trivial⟩) (fun μ K y hy => hy) W
theorem sort_ok {k : FuncId} (hk : CmpAt k) {H : Hp} {l : List Pt2} {b o cap nb : Nat} {ex : Bool} {z : List C} {mm : T C} (hb : H.get b = some (.row nb z mm true)) (hin : o + l.length * 2 <= nb) (hld : H.loads b o (l.length * 2) = some (ptsC l)) (hpos : 0 < l.length) (hsz : l.length < 4611686018427387904) (hall : ∃ cells, Row H b cells) :
  ACalls Tryd.prog 1 48 [.one (.slc b o l.length cap 2 ex), .one (.fn k [])] H fun v H' => v = .tup [] /\ ∃ l' : List Pt2, l'.Perm l /\ SortedP l' /\ H.stores b o (ptsC l') = some H' := by
 intro μ K w xs hR ha
 match xs, ha with
 | [x1, x2], ⟨⟨hK, a, c, h1, h2, h3, h4, h5⟩, ⟨_, h6⟩, _⟩ =>
  subst h1 h6
  rcases h5 with h5|⟨rfl, h5⟩
  ·omega
  ·obtain ⟨cs, t, fz, e1, e2, e3, e4, e5⟩ := hR.blk b _ hb
   obtain rfl := e4 rfl
   have hblk : (μ b).blk < w.heap.size := hR.blk_lt hb
   have hH : HoldsK encPt 2 w (μ b).blk ((μ b).off + o) l.toArray := by
    intro j hj
    have hj' : j < l.length * 2 := by simpa using hj
    obtain ⟨n, g1, g2⟩ := ptsC_at l j hj'
    have hcell : H.cell b (o + j) = some (.int .i64 n) := by rw [<- g1]; exact loads_cell hld hj'
    have hcell' : (B.row nb z mm true).cell (o + j) = some (.int .i64 n) := by simpa [Hp.cell, hb] using hcell
    obtain ⟨x, k1, k2⟩ := e5 _ _ hcell'
    have k2 : x = .int .i64 n := k2
    subst k2
    refine ⟨?_, by simp [World.frozen?, e1]⟩
    have hf : (flatK encPt 2 l.toArray)[j]! = .int .i64 n := by
     have h7 : (flatK encPt 2 l.toArray).toList[j]? = some (.int .i64 n) := by rw [flat_eq]; exact g2
     rw [getElem!_pos _ j hj]
     have := List.getElem?_eq_some_iff.1 h7
     obtain ⟨_, this⟩ := this
     simpa using this
    rw [hf]
    simp only [World.cell?, e1]
    simpa [Nat.add_assoc] using k1
   have hcon := AnyQ.slices_SortFunc Tryd.sortPt 2 Tryd.isAgg38 Tryd.sizeOf38 encPt (fun _ => rfl) (fun x v hv => by simp [encPt] at hv; rcases hv with rfl|rfl <;> rfl) cmpP swo k #[] (μ b).blk ((μ b).off + o) c l.toArray w hk.eg (fun _ _ _ _ x y => hk.calls x y _) hH hblk (by simpa using hsz)
   have hcon' : Calls Tryd.prog 48 #[.slice (some ((μ b).addr o)) l.length c, .func (.func k) #[] #[]] w _ := hcon
   refine hcon'.mono ?_
   rintro e w' ⟨rfl, d', m, os, hp, hs, rfl⟩
   obtain ⟨p1, p2, p3⟩ := hp
   simp only [List.size_toArray] at p1
   have hperm : d'.toList.Perm l := by
    have e1 : (d'.extract 0 l.toArray.size).toList = d'.toList := by
     rw [show l.toArray.size = d'.size by simp [p1]]; simp
    have e2 : (l.toArray.extract 0 l.toArray.size).toList = l := by simp
    rw [e1, e2] at p3
    exact p3
   have hlen : d'.toList.length = l.length := hperm.length_eq
   obtain ⟨cells, hrow⟩ := hall
   have hcl : cells.length = nb := by
    obtain ⟨⟨z', m', hz⟩, _⟩ := hrow
    rw [hb] at hz
    exact (B.row.inj (Option.some.inj hz)).1.symm
   obtain ⟨H', s1, s2, s3, s4⟩ := hrow.stores (cs := ptsC d'.toList) (i := o) (by rw [ptsC_len, hlen]; omega)
   have hput := Rel.putRow Tryd.prog hR hb s1 (by rw [ptsC_len, hlen]; exact hin) (F := flatK encPt 2 d') (by
    have : (flatK encPt 2 d').toList = d'.toList.flatMap encPt := by
     have := flat_eq d'.toList
     simpa using this
    rw [this]; exact all_enc _) m os
   refine ⟨_, rfl, .tup [], H', μ, K, ⟨rfl, d'.toList, hperm, ?_, s1⟩, ⟨[], rfl, trivial⟩, hput.1, hput.2⟩
   intro i j x y hi hj hij
   have hji : j < d'.size := by simpa using (List.getElem?_eq_some_iff.1 hj).1
   have := hs i j (Nat.zero_le _) hij (by simp [<- p1]; exact hji)
   rw [ltcmp] at this
   have ex1 : d'[i]! = x := by
    rw [getElem!_pos _ i (by omega)]
    have := (List.getElem?_eq_some_iff.1 hi).2
    simpa using this
   have ey1 : d'[j]! = y := by
    rw [getElem!_pos _ j hji]
    have := (List.getElem?_eq_some_iff.1 hj).2
    simpa using this
   rw [ex1, ey1] at this
   exact this
end Go.Af

namespace Go.Af
open Go.Ab Go.Proofs
set_option linter.unusedSimpArgs false
abbrev fnK (k : FuncId) : DV := .one (.f (.c (.fn k [])))
theorem ptF_C {Z : Nat -> Prop} {H : Hp} : ∀ {l : List Pt2} {cs : List C}, All2 (RF Z H) (l.flatMap ptF) cs -> cs = ptsC l
 | [], [], _ => rfl
 | [], _ :: _, h => h.elim
 | x :: l, cs, h => by
  match cs, h with
  | c1 :: c2 :: cs, ⟨h1, h2, h3⟩ =>
   cases h1; cases h2
   rw [ptF_C (l := l) h3]
   rfl
  | [_], h => exact h.2.elim
  | [], h => exact h.elim
theorem ptC_F {Z : Nat -> Prop} {H : Hp} : ∀ l : List Pt2, All2 (RF Z H) (l.flatMap ptF) (ptsC l)
 | [] => trivial
 | x :: l => ⟨.c _ rfl, .c _ rfl, ptC_F l⟩
noncomputable abbrev parK (Z0 : Nat -> Prop) (lo anc : Nat) (β0 : Beta) (H1 : Hp) : Par := ⟨Tryd.prog, 1, H00 1, Z0, lo, anc, β0, H1, none⟩
abbrev DKX (f : FuncId) (ds : List DV) (S : Bx) (nk : Nat) (R : DV -> Bx -> Nat -> Prop) : Prop := ∀ Z0 lo anc β0 H1, DX (parK Z0 lo anc β0 H1) f ds S nk R
theorem dxk_ok {f : FuncId} {sf : SFn} (hf : cpFn Tryd.prog 1 f = some sf) {ds : List DV} {S : Bx} {nk : Nat} {R : DV -> Bx -> Nat -> Prop} (hn : Nat.ble ds.length sf.n = true)
  (h : ∀ Z β H lo, DPS (parK Z lo nk β H) sf.n sf.code (retO (parK Z lo nk β H) sf.res R) (argsD ds 0) S nk) : DKX f ds S nk R := fun Z0 lo anc β0 H1 => dx_ok (p := parK Z0 lo anc β0 H1) hf hn fun Z β H => h Z β H lo
theorem dx_sortK {g : FuncId} (hg : CmpAt g) {k nk : Nat} {l : List Pt2} {S : Bx} (hk : lk S k = some (.data (l.flatMap ptF))) (hpos : 0 < l.length) (hsz : l.length < 1000000000000) : DKX 48 [.one (.own k 0 l.length 2), fnK g] S nk fun d S' nk' => d = .tup [] /\ nk' = nk /\ ∃ l' : List Pt2, l'.Perm l /\ SortedP l' /\ S' = put k (.data (l'.flatMap ptF)) S := by
 intro Z0 lo anc β0 H1 Z β H args hS ha
 match args, ha with
 | [v1, v2], ⟨h1, h2, _⟩ =>
  obtain ⟨c1, rfl, h1⟩ := h1
  obtain ⟨c2, rfl, h2⟩ := h2
  cases h2
  rcases h1 with ⟨_, h1, _⟩|⟨b, N, cap, ex, hb, rfl, hcap, hN⟩
  ·omega
  ·obtain ⟨s, hs, hbx⟩ := hS.box (k, 0) _ (lk2_of hk rfl)
   rw [hb] at hs
   obtain rfl := Option.some.inj hs
   obtain ⟨hz, hlo, hlt, cs, rest, hrow, hNl, hrel⟩ := hbx
   have hrow : Row H b (cs ++ rest) := hrow
   have hNl : (cs ++ rest).length = N := hNl
   obtain rfl := ptF_C hrel
   obtain ⟨⟨z, mm, hget⟩, hld⟩ := hrow
   have hin : 0 + l.length * 2 <= (ptsC l ++ rest).length := by rw [List.length_append, ptsC_len]; omega
   have hld' : H.loads b 0 (l.length * 2) = some (ptsC l) := by
    have := loads_take hld (m := l.length * 2) (by rw [List.length_append, ptsC_len]; omega)
    rw [this, List.take_append_of_le_length (by rw [ptsC_len]; omega), List.take_of_length_le (by rw [ptsC_len]; omega)]
   refine (sort_ok hg hget hin hld' hpos oM ⟨_, ⟨z, mm, hget⟩, hld⟩).mono ?_
   rintro v H' ⟨rfl, l', hp, hso, hst⟩
   have hl' : l'.length = l.length := hp.length_eq
   obtain ⟨H2, e1, e2, e3, e4⟩ := Row.stores (cs := ptsC l') (i := 0) ⟨⟨z, mm, hget⟩, hld⟩ (by rw [List.length_append, ptsC_len, ptsC_len]; omega)
   rw [hst] at e1
   obtain rfl := Option.some.inj e1
   rw [setL_app (ptsC l') (ptsC l) rest 0 (by rw [ptsC_len, ptsC_len]; omega)] at e2
   have hset : setL (ptsC l) 0 (ptsC l') = ptsC l' := by
    have := dsetL_mid [] (ptsC l) (ptsC l') [] (by rw [ptsC_len, ptsC_len, hl'])
    simpa using this
   rw [hset] at e2
   obtain ⟨hS', hZ⟩ := hS.upd (x' := .data (l'.flatMap ptF)) (cs := ptsC l') (rest := rest) hk rfl hb (ptC_F l') e3 e4 rfl e2 (by rw [<- hNl, List.length_append, List.length_append, ptsC_len, ptsC_len, hl'])
   exact ⟨.tup [], _, _, Z, β, hS', ⟨[], rfl, trivial⟩, hZ, fun _ _ h => h, rfl, rfl, l', hp, hso, rfl⟩
theorem before_iff {a b : Pt2} : before a b = true ↔ a.2 < b.2 \/ (a.2 = b.2 /\ a.1 < b.1) := by
 unfold before
 by_cases h1 : a.2 < b.2
 ·simp [h1]
 ·by_cases h2 : a.2 = b.2
  ·simp [h1, h2]
  ·simp [h1, h2]
abbrev ByRows (l : List Pt2) : Prop := l.Pairwise fun a b => before a b = true
theorem before_trans {a b c : Pt2} (h1 : before a b = true) (h2 : before b c = true) : before a c = true := by
 rw [before_iff] at *; omega
theorem before_irrefl {a : Pt2} : ¬ before a a = true := by rw [before_iff]; omega
theorem before_total {a b : Pt2} (h : ¬ before a b = true) (hne : a ≠ b) : before b a = true := by
 rw [before_iff] at *
 have : ¬ (a.1 = b.1 /\ a.2 = b.2) := fun h => hne (Prod.ext h.1 h.2)
 omega
theorem ByRows.ext : ∀ {l m : List Pt2}, ByRows l -> ByRows m -> (∀ p, p ∈ l ↔ p ∈ m) -> l = m
 | [], [], _, _, _ => rfl
 | [], b :: m, _, _, h => by have := (h b).2 (by simp); simp at this
 | a :: l, [], _, _, h => by have := (h a).1 (by simp); simp at this
 | a :: l, b :: m, hl, hm, h => by
  rw [ByRows, List.pairwise_cons] at hl hm
  have hab : a = b := by
   rcases List.mem_cons.1 ((h a).1 (by simp)) with e|e
   ·exact e
   ·rcases List.mem_cons.1 ((h b).2 (by simp)) with e'|e'
    ·exact e'.symm
    ·exact absurd (before_trans (hl.1 b e') (hm.1 a e)) before_irrefl
  subst hab
  congr 1
  refine ByRows.ext hl.2 hm.2 fun p => ?_
  constructor
  ·intro hp
   rcases List.mem_cons.1 ((h p).1 (by simp [hp])) with e|e
   ·subst e; exact absurd (hl.1 p hp) before_irrefl
   ·exact e
  ·intro hp
   rcases List.mem_cons.1 ((h p).2 (by simp [hp])) with e|e
   ·subst e; exact absurd (hm.1 p hp) before_irrefl
   ·exact e
theorem posR_spec (x : Pt2) (out : List Pt2) : ∀ n, n <= out.length -> (∀ j z, posR x out n <= j -> j < n -> out[j]? = some z -> before x z = true) /\ (∀ z, 0 < posR x out n -> out[posR x out n - 1]? = some z -> ¬ before x z = true)
 | 0, _ => ⟨fun j z h1 h2 => by omega, fun z h => by simp [posR] at h⟩
 | n + 1, hn => by
  obtain ⟨z, hz⟩ : ∃ z, out[n]? = some z := ⟨_, List.getElem?_eq_getElem oM⟩
  have ih := posR_spec x out n oM
  have e : posR x out (n + 1) = if before x z = true then posR x out n else n + 1 := by simp only [posR, hz]
  rw [e]
  by_cases hb : before x z = true
  ·rw [if_pos hb]
   refine ⟨fun j y h1 h2 hy => ?_, ih.2⟩
   by_cases hj : j = n
   ·subst hj; rw [hz] at hy; obtain rfl := Option.some.inj hy; exact hb
   ·exact ih.1 j y h1 oM hy
  ·rw [if_neg hb]
   refine ⟨fun j y h1 h2 => oM, fun y _ hy => ?_⟩
   rw [Nat.add_sub_cancel, hz] at hy
   obtain rfl := Option.some.inj hy
   exact hb
theorem insP_ok {x : Pt2} {out : List Pt2} (ho : ByRows out) (hx : x ∉ out) : ByRows (insP x out) := by
 obtain ⟨h1, h2⟩ := posR_spec x out out.length (Nat.le_refl _)
 have hp := posR_le x out out.length
 generalize hP : posR x out out.length = P at h1 h2 hp
 have hsplit : out = out.take P ++ out.drop P := (List.take_append_drop P out).symm
 have hlow : ∀ z ∈ out.take P, before z x = true := fun z hz => by
  obtain ⟨j, hj⟩ := List.getElem?_of_mem hz
  rw [List.getElem?_take] at hj
  split at hj
  ·rename_i hjP
   have hP1 : P - 1 < out.length := by omega
   have hnb := h2 out[P - 1] oM (List.getElem?_eq_getElem hP1)
   have hb := before_total hnb (fun e => hx (by rw [e]; exact List.getElem_mem hP1))
   by_cases hj1 : j = P - 1
   ·subst hj1; rw [List.getElem?_eq_getElem hP1] at hj; obtain rfl := Option.some.inj hj; exact hb
   ·have hjl : j < out.length := by omega
    rw [List.getElem?_eq_getElem hjl] at hj
    obtain rfl := Option.some.inj hj
    exact before_trans (List.pairwise_iff_getElem.1 ho j (P - 1) hjl hP1 oM) hb
  ·cases hj
 have hhigh : ∀ z ∈ out.drop P, before x z = true := fun z hz => by
  obtain ⟨j, hj⟩ := List.getElem?_of_mem hz
  rw [List.getElem?_drop] at hj
  exact h1 (P + j) z oM (List.getElem?_eq_some_iff.1 hj).1 hj
 rw [hsplit, ByRows, List.pairwise_append] at ho
 rw [insP, hP, ByRows, List.append_assoc, List.pairwise_append]
 refine ⟨ho.1, ?_, fun a ha b hb => ?_⟩
 ·simp only [List.singleton_append, List.pairwise_cons]
  exact ⟨hhigh, ho.2.1⟩
 ·simp only [List.singleton_append, List.mem_cons] at hb
  rcases hb with rfl|hb
  ·exact hlow a ha
  ·exact ho.2.2 a ha b hb
theorem insP_mem {x p : Pt2} {out : List Pt2} : p ∈ insP x out ↔ p = x \/ p ∈ out := by
 simp only [insP, List.mem_append, List.mem_singleton]
 constructor
 ·rintro ((h|h)|h)
  ·exact .inr (List.mem_of_mem_take h)
  ·exact .inl h
  ·exact .inr (List.mem_of_mem_drop h)
 ·rintro (h|h)
  ·exact .inl (.inr h)
  ·rw [<- List.take_append_drop (posR x out out.length) out, List.mem_append] at h
   exact h.elim (fun h => .inl (.inl h)) .inr
theorem addP_ok {x : Pt2} {out : List Pt2} (ho : ByRows out) : ByRows (addP out x) := by
 unfold addP
 split
 ·exact ho
 ·exact insP_ok ho aM
theorem addP_mem {x p : Pt2} {out : List Pt2} : p ∈ addP out x ↔ p = x \/ p ∈ out := by
 unfold addP
 split
 ·rename_i h
  exact ⟨.inr, fun h' => h'.elim (fun e => e ▸ h) fun h => h⟩
 ·exact insP_mem
theorem sortedP_go : ∀ (l out : List Pt2), ByRows out -> ByRows (l.foldl addP out) /\ ∀ p, p ∈ l.foldl addP out ↔ p ∈ out \/ p ∈ l
 | [], out, h => ⟨h, by simp⟩
 | x :: l, out, h => by
  obtain ⟨h1, h2⟩ := sortedP_go l (addP out x) (addP_ok h)
  refine ⟨h1, fun p => ?_⟩
  rw [List.foldl_cons, h2, addP_mem, List.mem_cons]
  constructor
  ·rintro ((h|h)|h)
   ·exact .inr (.inl h)
   ·exact .inl h
   ·exact .inr (.inr h)
  ·rintro (h|h|h)
   ·exact .inl (.inr h)
   ·exact .inl (.inl h)
   ·exact .inr h
theorem sortedP_rows (l : List Pt2) : ByRows (sortedP l) := (sortedP_go l [] List.Pairwise.nil).1
theorem sortedP_mem {l : List Pt2} {p : Pt2} : p ∈ sortedP l ↔ p ∈ l := by rw [sortedP, (sortedP_go l [] List.Pairwise.nil).2]; simp
end Go.Af

namespace Go.Ab
section
variable {p : Par} {n : Nat} {Q : Exit -> DEnv -> Bx -> Nat -> Prop} {E : DEnv} {S : Bx} {nk : Nat}
theorem ds_virtD {s : SC} (kb i esz : Nat) {l : List DC} (hk : lk S kb = some (.cells l)) (hi : l[i]? = some (.f (.c .nils))) (h : DPS p n s Q E ((nk, .data []) :: put kb (.cells (l.set i (.own nk 0 0 esz))) S) (nk + 1)) : DPS p n s Q E S nk := .mk fun Z β H F hS hE => by
 have hT := virt_ok hS
 have hB : BLe β (updB β nk .nil) := hS.ble .nil
 have hkn := hS.lt hk
 have hkT : lk ((nk, .data []) :: S) kb = some (.cells l) := by rw [lk_cons, if_neg (by omega)]; exact hk
 refine h.run Z _ H F ?_ (hE.mono (ZLe.refl Z H) hB)
 have hput : ∀ j, lk ((nk, .data []) :: put kb (.cells (l.set i (.own nk 0 0 esz))) S) j = lk (put kb (.cells (l.set i (.own nk 0 0 esz))) ((nk, .data []) :: S)) j := fun j => by
  simp only [put, beq_ne (show nk ≠ kb by omega)]
 refine ⟨hT.wf, hT.lo, hT.z, hT.zlo, hT.zz, hT.glob, hT.nk, hT.bd, fun κ y hκ => ?_, fun κ κ' y y' b N N' hj hj' => ?_, hT.blo, hT.anch, hT.ancn⟩
 ·rw [lk2_congr (hput κ.1), lk2_put hkT rfl] at hκ
  split at hκ
  ·rename_i e
   split at hκ
   ·rename_i e2
    obtain rfl := key_eq e e2
    obtain rfl := Option.some.inj hκ
    obtain ⟨s, hs, hbx⟩ := hT.box (kb, 0) _ (lk2_of hkT rfl)
    refine ⟨s, hs, ?_⟩
    cases s with
    | nil =>
     have : l = [] := List.eq_nil_of_length_eq_zero hbx
     subst this; cases hi
    | blk b N =>
     obtain ⟨g1, g2, g3, cs, rest, g4, g5, g6⟩ := hbx
     refine ⟨g1, g2, g3, cs, rest, g4, g5, ?_⟩
     obtain ⟨c, hc, hr⟩ := All2.at g6 i _ hi
     cases hr
     have hset : cs.set i .nils = cs := by
      refine List.ext_getElem? fun j => ?_
      rw [List.getElem?_set]
      split
      ·rename_i ej; subst ej; rw [hc]; first|rfl|rw [if_pos (List.getElem?_eq_some_iff.1 hc).1]
      ·rfl
     show All2 _ _ _
     rw [<- hset]
     exact All2.set g6 i (.inl ⟨updB_self _ _ _, rfl, rfl, rfl⟩)
   ·cases hκ
  ·exact hT.box κ y hκ
 ·rw [hput] at hj hj'
  rw [lk_put] at hj hj'
  have f : ∀ a z, (if a = kb then Option.map (fun _ => Bk.cells (l.set i (.own nk 0 0 esz))) (lk ((nk, .data []) :: S) a) else lk ((nk, .data []) :: S) a) = some z -> ∃ z', lk ((nk, .data []) :: S) a = some z' := fun a z hz => by
   split at hz
   ·cases hl : lk ((nk, .data []) :: S) a with
    | none => rw [hl] at hz; cases hz
    | some q => exact ⟨q, rfl⟩
   ·exact ⟨z, hz⟩
  obtain ⟨z1, e1⟩ := f κ.1 y hj
  obtain ⟨z2, e2⟩ := f κ'.1 y' hj'
  exact hT.inj κ κ' z1 z2 b N N' e1 e2
end
end Go.Ab

namespace Go.Af
open Go.Ab Go.Proofs
set_option linter.unusedSimpArgs false
def ptV (p : Pt2) : V := .agg [.int .i64 p.1, .int .i64 p.2]
def stF : Nat -> List Pt2 -> List (V × V × Nat)
 | _, [] => []
 | i, p :: l => (ptV p, .one (.bool true), i) :: stF (i + 1) l
abbrev stE (l : List Pt2) : List (V × V × Nat) := stF 0 l
def mapB (l : List Pt2) : Bk := .mp (.st (stE l) l.length) []
theorem stF_snoc (p : Pt2) : ∀ (l : List Pt2) (i : Nat), stF i (l ++ [p]) = stF i l ++ [(ptV p, .one (.bool true), i + l.length)]
 | [], i => rfl
 | q :: l, i => by rw [List.cons_append, stF, stF_snoc p l, stF, List.cons_append, List.length_cons, show i + 1 + l.length = i + (l.length + 1) by omega]
theorem stF_mem {e : V × V × Nat} : ∀ {l : List Pt2} {i : Nat}, e ∈ stF i l ↔ ∃ (j : Nat) (p : Pt2), l[j]? = some p /\ e = (ptV p, .one (.bool true), i + j)
 | [], i => by simp [stF]
 | q :: l, i => by
  rw [stF, List.mem_cons, stF_mem]
  constructor
  ·rintro (rfl|⟨j, p, h1, rfl⟩)
   ·exact ⟨0, q, rfl, rfl⟩
   ·exact ⟨j + 1, p, h1, by rw [show i + 1 + j = i + (j + 1) by omega]⟩
  ·rintro ⟨j, p, h1, rfl⟩
   cases j with
   | zero => left; rw [<- Option.some.inj h1]; rfl
   | succ j => right; exact ⟨j, p, h1, by rw [show i + 1 + j = i + (j + 1) by omega]⟩
theorem ptEq_pt (p q : Pt2) : ptEq [.int .i64 p.1, .int .i64 p.2] (ptV q) = some (decide (p = q)) := by
 obtain ⟨a, b⟩ := p
 obtain ⟨c, d⟩ := q
 simp only [ptEq, ptV, and_self, if_true]
 congr 1
 by_cases h1 : a = c
 ·by_cases h2 : b = d
  ·simp [h1, h2]
  ·simp [h1, h2]
 ·simp [h1]
theorem sfind_pt (p : Pt2) : ∀ (l : List Pt2) (i j : Nat), (p ∉ l /\ sfind [.int .i64 p.1, .int .i64 p.2] (stF j l) i = some none) \/ ∃ k, l[k]? = some p /\ sfind [.int .i64 p.1, .int .i64 p.2] (stF j l) i = some (some (i + k))
 | [], i, j => .inl ⟨by simp, rfl⟩
 | q :: l, i, j => by
  rw [stF, sfind, ptEq_pt]
  by_cases h : p = q
  ·subst h
   right
   exact ⟨0, rfl, by simp⟩
  ·rw [decide_eq_false h]
   simp only
   rcases sfind_pt p l (i + 1) (j + 1) with ⟨h1, h2⟩|⟨k, h1, h2⟩
   ·exact .inl ⟨by simp [h, h1], h2⟩
   ·exact .inr ⟨k + 1, h1, by rw [h2, show i + 1 + k = i + (k + 1) by omega]⟩
theorem sset_same {e : List (V × V × Nat)} {k : Nat} {v : V} {x : V × V × Nat} (h : e[k]? = some x) (hv : x.2.1 = v) : sset e k v = e := by
 refine List.ext_getElem? fun j => ?_
 rw [sset, List.getElem?_modify]
 split
 ·rename_i hkj
  subst hkj
  rw [h]
  subst hv
  rfl
 ·simp
theorem stF_at {p : Pt2} : ∀ {l : List Pt2} {i k : Nat}, l[k]? = some p -> (stF i l)[k]? = some (ptV p, .one (.bool true), i + k)
 | [], _, _, h => by simp at h
 | q :: l, i, 0, h => by rw [<- Option.some.inj h]; rfl
 | q :: l, i, k + 1, h => by
  have := stF_at (l := l) (i := i + 1) (k := k) h
  rw [stF, List.getElem?_cons_succ, this, show i + 1 + k = i + (k + 1) by omega]
def putP (l : List Pt2) (p : Pt2) : List Pt2 := if p ∈ l then l else l ++ [p]
theorem stUp_pt (l : List Pt2) (p : Pt2) : stUp (stE l) l.length [.int .i64 p.1, .int .i64 p.2] (.bool true) = some (stE (putP l p), (putP l p).length) := by
 unfold stUp
 rw [show isPtL [.int .i64 p.1, .int .i64 p.2] = true from rfl]
 rcases sfind_pt p l 0 0 with ⟨h1, h2⟩|⟨k, h1, h2⟩
 ·rw [h2, putP, if_neg h1]
  show _ = some (stF 0 (l ++ [p]), (l ++ [p]).length)
  rw [stF_snoc, Nat.zero_add, List.length_append]
  rfl
 ·rw [h2, putP, if_pos (List.mem_of_getElem? h1), Nat.zero_add]
  simp only
  rw [sset_same (stF_at h1) rfl]
theorem putP_nodup {l : List Pt2} {p : Pt2} (h : l.Nodup) : (putP l p).Nodup := by
 unfold putP
 split
 ·exact h
 ·rename_i hn
  rw [List.nodup_append]
  exact ⟨h, by simp, fun a ha b hb => by
   rw [List.mem_singleton] at hb
   subst hb
   rintro rfl
   exact hn ha⟩
theorem putP_mem {l : List Pt2} {p q : Pt2} : q ∈ putP l p ↔ q ∈ l \/ q = p := by
 unfold putP
 split
 ·rename_i h
  constructor
  ·exact .inl
  ·rintro (h1|rfl)
   ·exact h1
   ·exact h
 ·simp
theorem stF_find {st : Nat} {p : Pt2} : ∀ {l : List Pt2} {i : Nat}, l[st]? = some p -> (stF i l).find? (fun e => e.2.2 == i + st) = some (ptV p, .one (.bool true), i + st) := by
 induction st with
 | zero =>
  intro l i h
  cases l with
  | nil => cases h
  | cons q l =>
   rw [<- Option.some.inj h, stF, List.find?_cons]
   simp
 | succ st ih =>
  intro l i h
  cases l with
  | nil => cases h
  | cons q l =>
   have := ih (l := l) (i := i + 1) h
   rw [stF, List.find?_cons]
   simp only [show (i == i + (st + 1)) = false by simp]
   rw [show i + 1 + st = i + (st + 1) by omega] at this
   exact this
structure Seen (l : List Pt2) (seen : List Nat) (out : List Pt2) : Prop where
 nd : seen.Nodup
 lt : ∀ i ∈ seen, i < l.length
 out : out.map some = seen.map (l[·]?)
theorem Seen.nil (l : List Pt2) : Seen l [] [] := ⟨List.nodup_nil, fun i h => (by cases h), rfl⟩
theorem Seen.step {l out : List Pt2} {seen : List Nat} {i : Nat} {p : Pt2} (h : Seen l seen out) (hi : l[i]? = some p) (hn : i ∉ seen) : Seen l (seen ++ [i]) (out ++ [p]) := by
 refine ⟨?_, fun j hj => ?_, ?_⟩
 ·rw [List.nodup_append]
  exact ⟨h.nd, by simp, fun a ha b hb => by
   rw [List.mem_singleton] at hb
   subst hb
   rintro rfl
   exact hn ha⟩
 ·rcases List.mem_append.1 hj with hj|hj
  ·exact h.lt j hj
  ·rw [List.mem_singleton] at hj
   subst hj
   exact (List.getElem?_eq_some_iff.1 hi).1
 ·rw [List.map_append, List.map_append, h.out]
  simp [hi]
theorem Seen.len {l out : List Pt2} {seen : List Nat} (h : Seen l seen out) : out.length = seen.length := by
 have := congrArg List.length h.out
 simpa using this
theorem nodup_le : ∀ (n : Nat) (s : List Nat), s.Nodup -> (∀ i ∈ s, i < n) -> s.length <= n
 | 0, s, _, h => by
  cases s with
  | nil => simp
  | cons a s => exact absurd (h a (by simp)) (by omega)
 | n + 1, s, hn, h => by
  have h1 := nodup_le n (s.filter (· ≠ n)) (hn.filter _) fun i hi => by
   rw [List.mem_filter] at hi
   have := h i hi.1
   have h2 : i ≠ n := by simpa using hi.2
   omega
  have h2 : s.length <= (s.filter (· ≠ n)).length + 1 := by
   clear h1 h
   induction s with
   | nil => simp
   | cons a s ih =>
    rw [List.nodup_cons] at hn
    by_cases ha : a = n
    ·subst ha
     have : s.filter (· ≠ a) = s := List.filter_eq_self.2 fun x hx => by
      have : x ≠ a := fun e => hn.1 (e ▸ hx)
      simpa using this
     rw [List.filter_cons_of_neg (by simp), this]
     simp
    ·rw [List.filter_cons_of_pos (by simpa using ha), List.length_cons, List.length_cons]
     have := ih hn.2
     omega
  omega
theorem Seen.le {l out : List Pt2} {seen : List Nat} (h : Seen l seen out) : out.length <= l.length := by
 rw [h.len]; exact nodup_le _ _ h.nd h.lt
theorem Seen.mem {l out : List Pt2} {seen : List Nat} (h : Seen l seen out) (hall : ∀ i, i < l.length -> i ∈ seen) (p : Pt2) : p ∈ out ↔ p ∈ l := by
 have h1 : p ∈ out ↔ some p ∈ out.map some := by simp
 rw [h1, h.out]
 constructor
 ·intro hp
  obtain ⟨i, _, hi⟩ := List.mem_map.1 hp
  exact List.mem_of_getElem? hi
 ·intro hp
  obtain ⟨i, hi⟩ := List.getElem?_of_mem hp
  exact List.mem_map.2 ⟨i, hall i (List.getElem?_eq_some_iff.1 hi).1, hi⟩
theorem Seen.nodup : ∀ {out : List Pt2} {l : List Pt2} {seen : List Nat}, l.Nodup -> Seen l seen out -> out.Nodup := by
 intro out l seen hl h
 rw [List.nodup_iff_pairwise_ne, List.pairwise_iff_getElem]
 intro i j hi hj hij he
 have hlen := h.len
 have hx : ∀ k (hk : k < out.length), l[seen[k]'oM]? = some out[k] := fun k hk => by
  have := congrArg (fun z => z[k]?) h.out
  simp only [List.getElem?_map, List.getElem?_eq_getElem hk, List.getElem?_eq_getElem (show k < seen.length by omega), Option.map_some, Option.some.injEq] at this
  exact this.symm
 have h1 := hx i hi
 have h2 := hx j hj
 rw [he] at h1
 have h4 : seen[i]'oM = seen[j]'oM := by
  have e1 := (List.getElem?_eq_some_iff.1 h1)
  have e2 := (List.getElem?_eq_some_iff.1 h2)
  obtain ⟨l1, e1⟩ := e1
  obtain ⟨l2, e2⟩ := e2
  exact (List.getElem_inj hl).1 (e1.trans e2.symm)
 have := (List.getElem_inj h.nd).1 h4
 omega
def kx (rec it : Bk) (l out : List Pt2) : Bx := [(0, mapB l), (1, .cells [.om 0]), (2, .cells [.own 6 0 out.length 2]), (6, .data (out.flatMap ptF)), (4, rec), (5, it)]
theorem yl_pt {p : Par} (hp : p.P = Tryd.prog) (hG : p.G = 1) {q : Pt2} {l out : List Pt2} {it : Bk} (hn : out.length < 1000000) {fid : FuncId} {sg bd : Code} (hsg : cpCode Tryd.prog 1 f56.n sg = some (.ops f56r2 0)) (hbd : cpCode Tryd.prog 1 f56.n bd = some f56b0)
  {base rs : Nat} {Q : DEnv -> Bx -> Nat -> Prop} {r : List SOper} {A : List Nat} {E : DEnv} {S : Bx} {nk : Nat} {id : Nat} {dst : Option Nat} {aid : Option Nat} {ws : List Nat} {keep : Bool} {x y : Opd}
  (hnk : nk = 8) (hS : SubA (kx (.mp (.lp .ready none fid f56.n [2] [7] sg bd) [.ptr 2 0]) it l out) S)
  (hx : ro E x = some (.one (.yl 4))) (hvs : ros E [y] = some [ptD q]) (hT : noT E = true)
  (h : DPW p base 0 Q r [] A (setD E dst (.bool true)) [(0, mapB l), (1, .cells [.om 0]), (2, .cells [.own 10 0 (out ++ [q]).length 2]), (10, .data ((out ++ [q]).flatMap ptF)), (4, .mp (.lp .ready none fid f56.n [2] [7] sg bd) [.ptr 2 0]), (5, it)] 11) :
  DPW p base rs Q (⟨id, dst, .cv x [y], none, aid, ws, keep⟩ :: r) [] A E S nk := by
 subst hnk
 have h4 : lk S 4 = some (.mp (.lp .ready none fid f56.n [2] [7] sg bd) [.ptr 2 0]) := hS 4 _ rfl
 refine dw_yl (R := fun d S' nk' => d = .bool true /\ SubA [(0, mapB l), (1, .cells [.om 0]), (2, .cells [.own 10 0 (out ++ [q]).length 2]), (10, .data ((out ++ [q]).flatMap ptF)), (4, .mp (.lp .ready none fid f56.n [2] [7] sg bd) [.ptr 2 0]), (5, it)] S' /\ nk' = 11) hx hvs h4 rfl rfl hT (by rw [hp, hG]; exact hsg) (by rw [hp, hG]; exact hbd) (fun ρ Z β H => ?_) (by rintro _ _ _ ⟨rfl, hs, rfl⟩; exact dw_keep (SubA.refl _) hs h)
 have mixp : (p.round ρ Z 8 β H).P.follows .mixedOrders = true := by show p.P.follows _ = _; rw [hp]; exact mix
 refine ds_keep (E0 := [(2, .one (.ptr 2 0)), (7, ptD q)]) (S0 := kx (.mp (.lp .ready none fid f56.n [2] [7] sg bd) [.ptr 2 0]) it l out) (SubA.cons rfl (SubA.cons rfl (SubA.nil _))) hS ?_
 have hfl := ptF_len out
 refine ds_ops mixp (fun base => ?_)
 refine goD ?_; intros
 refine ⟨rfl, _, _, _, _, _, _, _, _, _, rfl, rfl, ?_⟩
 refine ds_block ?_
 refine ds_ops mixp (fun base => ?_)
 refine goD ?_; intros
 refine dw_app (q := ptF q) rfl rfl rfl (subL_all _ hfl) ⟨rfl, rfl, _, rfl, rfl⟩ oM oM (by decide) rfl ?_
 rw [show out.flatMap ptF ++ ptF q = (out ++ [q]).flatMap ptF by simp, show out.length + 1 = (out ++ [q]).length by simp]
 refine goD ?_; intros
 exact ⟨_, _, _, _, _, _, _, _, _, rfl, rfl, SubA.cons rfl (SubA.cons rfl (SubA.cons rfl (SubA.cons rfl (SubA.cons rfl (SubA.cons rfl (SubA.nil _)))))), rfl⟩
set_option maxHeartbeats 4000000 in
theorem x_keys {l : List Pt2} (hl : l.Nodup) (hn : l.length < 1000000) {fid : FuncId} {sg bd : Code} (hsg : cpCode Tryd.prog 1 f56.n sg = some (.ops f56r2 0)) (hbd : cpCode Tryd.prog 1 f56.n bd = some f56b0) :
  DKX 49 [.one (.yl 4), .one (.ptr 1 0)] [(0, mapB l), (1, .cells [.om 0]), (2, .cells [.own 3 0 0 2]), (3, .data []), (4, .mp (.lp .ready none fid f56.n [2] [7] sg bd) [.ptr 2 0])] 5
  fun _ S' nk' => ∃ out : List Pt2, out.Nodup /\ (∀ p, p ∈ out ↔ p ∈ l) /\ out.length <= l.length /\ SubA [(0, mapB l), (1, .cells [.om 0]), (2, .cells [.own 6 0 out.length 2]), (6, .data (out.flatMap ptF)), (4, .mp (.lp .ready none fid f56.n [2] [7] sg bd) [.ptr 2 0])] S' /\ nk' = 7 := by
 refine dxk_ok cp49 rfl fun Z β H lo => ?_
 refine goD ?_; intros
 refine dw_rng rfl rfl ?_
 refine goD ?_; intros
 refine ds_loop (fun m E S nk => ∃ (seen : List Nat) (out : List Pt2) (last : Nat), seen.length + m = l.length /\ Seen l seen out /\ l.length <= last /\ E = [(0, .one (.yl 4)), (5, .one (.ptr 5 0))] /\ S = kx (.mp (.lp .ready none fid f56.n [2] [7] sg bd) [.ptr 2 0]) (.mp (.it l.length seen last) [.om 0]) l out /\ nk = 7)
  ⟨l.length, _, _, _, [(6, 3)], ?wk, [], [], l.length, by simp, Seen.nil l, Nat.le_refl _, rfl, rfl, rfl⟩ ?_
 case wk => exact wkA
 rintro m E S nk ⟨seen, out, last, hm, hsn, hla, rfl, rfl, rfl⟩
 have hole := hsn.le
 refine goD ?_; intros
 refine dw_nx rfl rfl rfl (fun e he => ?_) hla rfl (fun hall => ?_) (fun e he hno => ?_)
 ·obtain ⟨j, p, h1, rfl⟩ := stF_mem.1 he
  have := (List.getElem?_eq_some_iff.1 h1).1
  simp only; omega
 ·refine goD ?_; intros
  refine ds_if (t := false) rfl (fun ht => by cases ht) (fun _ => ?_)
  refine goD ?_; intros
  refine ⟨_, rfl, rfl, _, SubA.refl _, out, hsn.nodup hl, hsn.mem fun i hi => ?_, hole, SubA.cons rfl (SubA.cons rfl (SubA.cons rfl (SubA.cons rfl (SubA.cons rfl (SubA.nil _))))), rfl⟩
  obtain ⟨p, hp⟩ : ∃ p, l[i]? = some p := ⟨_, List.getElem?_eq_getElem hi⟩
  have := hall _ (stF_mem.2 ⟨i, p, hp, rfl⟩)
  simpa using this
 ·obtain ⟨i, p, hp, rfl⟩ := stF_mem.1 he
  rw [Nat.zero_add] at hno ⊢
  simp only at hno ⊢
  have hfd := stF_find (i := 0) hp
  rw [Nat.zero_add] at hfd
  refine goD ?_; intros
  refine ds_if (t := true) rfl (fun _ => ?_) (fun ht => by cases ht)
  refine goD ?_; intros
  refine dw_ent rfl rfl rfl rfl hfd rfl rfl ?_
  refine goD ?_; intros
  have hle2 := (hsn.step hp hno).le
  have hln2 := hsn.len
  rw [List.length_append, List.length_singleton] at hle2
  refine yl_pt rfl rfl (q := p) (l := l) (out := out) (it := .mp (.it l.length (seen ++ [i]) l.length) [.om 0]) oM hsg hbd rfl (SubA.cons rfl (SubA.cons rfl (SubA.cons rfl (SubA.cons rfl (SubA.cons rfl (SubA.cons rfl (SubA.nil _))))))) rfl rfl rfl ?_
  refine goD ?_; intros
  refine ds_if (t := false) rfl (fun ht => by cases ht) (fun _ => ?_)
  refine goD ?_; intros
  refine ⟨m - 1, by omega, _, _, _, [(6, 10)], ?wk2, seen ++ [i], out ++ [p], l.length, by rw [List.length_append, List.length_singleton]; omega, hsn.step hp hno, Nat.le_refl _, rfl, rfl, rfl⟩
  case wk2 => exact wkA
theorem DX.sub {p : Par} {f : FuncId} {ds : List DV} {S S0 : Bx} {nk : Nat} {R : DV -> Bx -> Nat -> Prop} (h : DX p f ds S0 nk R) (hs : SubA S0 S) : DX p f ds S nk R := fun Z β H args hS ha => h Z β H args (hS.keepS hs) ha
theorem x_app {l : List Pt2} (hl : l.Nodup) (hn : l.length < 1000000) : DKX 56 [.one (.f (.c .nils)), .one (.fn 49 [(1, 0)])] [(0, mapB l), (1, .cells [.om 0])] 2
  fun d S' nk' => ∃ out : List Pt2, out.Nodup /\ (∀ p, p ∈ out ↔ p ∈ l) /\ d = .one (.own 6 0 out.length 2) /\ out.length <= l.length /\ SubA [(6, .data (out.flatMap ptF))] S' /\ nk' = 7 := by
 refine dxk_ok cp56 rfl fun Z β H lo => ?_
 refine goD ?_; intros
 refine ds_virtD 2 0 2 rfl rfl ?_
 refine ds_rf rfl [2] rfl (by show isFn Tryd.prog 49 = true; kernel_rfl) rfl rfl (fun fid sg bd hsg hbd => ?_)
 refine DX.sub (S0 := [(0, mapB l), (1, .cells [.om 0]), (2, .cells [.own 3 0 0 2]), (3, .data []), (4, .mp (.lp .ready none fid f56.n [2] [7] sg bd) [.ptr 2 0])]) ((x_keys hl hn hsg hbd _ _ _ _ _).mono ?_) (SubA.cons rfl (SubA.cons rfl (SubA.cons rfl (SubA.cons rfl (SubA.cons rfl (SubA.nil _))))))
 rintro _ S' nk' ⟨out, h1, h2, h3, h4, rfl⟩
 refine ⟨_, _, _, _, _, _, _, _, _, h4 4 _ rfl, by simp, ?_⟩
 have h5 : SubA [(2, .cells [.own 6 0 out.length 2]), (6, .data (out.flatMap ptF))] (era 4 S') := SubA.cons (((lk_era _ _ _).trans (if_neg (by decide))).trans (h4 2 _ rfl)) (SubA.cons (((lk_era _ _ _).trans (if_neg (by decide))).trans (h4 6 _ rfl)) (SubA.nil _))
 refine ds_keep (E0 := [(2, .one (.ptr 2 0))]) (SubA.cons rfl (SubA.nil _)) h5 ?_
 refine goD ?_; intros
 exact ds_ret ⟨_, rfl, rfl, _, SubA.refl _, out, h1, h2, rfl, h3, SubA.cons rfl (SubA.nil _), rfl⟩
theorem x_coll {l : List Pt2} (hl : l.Nodup) (hn : l.length < 1000000) : DKX 47 [.one (.fn 49 [(1, 0)])] [(0, mapB l), (1, .cells [.om 0])] 2
  fun d S' nk' => ∃ out : List Pt2, out.Nodup /\ (∀ p, p ∈ out ↔ p ∈ l) /\ d = .one (.own 6 0 out.length 2) /\ out.length <= l.length /\ SubA [(6, .data (out.flatMap ptF))] S' /\ nk' = 7 := by
 refine dxk_ok cp47 rfl fun Z β H lo => ?_
 refine goD ?_; intros
 refine dw_cx rfl rfl rfl (x_app hl hn _ _ _ _ _) ?_
 rintro _ S' _ ⟨out, h1, h2, rfl, h3, h4, rfl⟩
 refine dw_keep (SubA.refl _) h4 ?_
 refine goD ?_; intros
 exact ds_ret ⟨_, rfl, rfl, _, SubA.refl _, out, h1, h2, rfl, h3, SubA.refl _, rfl⟩
theorem x_mkeys (l : List Pt2) : DKX 33 [.one (.om 0)] [(0, mapB l)] 1 fun d S' nk' => d = .one (.fn 49 [(1, 0)]) /\ SubA [(0, mapB l), (1, .cells [.om 0])] S' /\ nk' = 2 := by
 refine dxk_ok cp33 rfl fun Z β H lo => ?_
 refine goD ?_; intros
 exact ds_ret ⟨_, rfl, rfl, _, SubA.refl _, rfl, SubA.cons rfl (SubA.cons rfl (SubA.nil _)), rfl⟩
theorem d_nan (a : Int) : DCalls Tryd.prog 1 ⟨.lf, 1⟩ 50 [.int a] fun d => d = .bool false := by
 refine dfn_ok cp50 rfl noro fun Z0 lo => ?_
 refine goD ?_; intros
 refine ds_ret ⟨_, rfl, rfl, ?_⟩
 simp
def cmpI (a b : Int) : Int := if a < b then -1 else if b < a then 1 else 0
theorem d_cmpI (a b : Int) : DCalls Tryd.prog 1 ⟨.lf, 1⟩ 36 [.int a, .int b] fun d => d = .int (cmpI a b) := by
 refine dfn_ok cp36 rfl noro fun Z0 lo => ?_
 refine goD ?_; intros
 refine dw_cf rfl rfl (d_nan a) ?_
 rintro _ rfl
 refine goD ?_; intros
 refine dw_cf rfl rfl (d_nan b) ?_
 rintro _ rfl
 refine goD ?_; intros
 refine ds_if rfl (fun ht => by cases ht) (fun _ => ?_)
 refine goD ?_; intros
 refine ds_if rfl (fun ht => by cases ht) (fun _ => ?_)
 refine goD ?_; intros
 refine ds_if rfl (fun ht => ?_) (fun ht => ?_)
 ·have h : a < b := by simpa using ht
  refine goD ?_; intros
  exact ds_ret ⟨_, rfl, rfl, by rw [cmpI, if_pos h]⟩
 ·have h : ¬ a < b := by simpa using ht
  refine goD ?_; intros
  refine ds_if rfl (fun ht => ?_) (fun ht => ?_)
  ·have h2 : b < a := by simpa using ht
   refine goD ?_; intros
   exact ds_ret ⟨_, rfl, rfl, by rw [cmpI, if_neg h, if_pos h2]⟩
  ·have h2 : ¬ b < a := by simpa using ht
   refine goD ?_; intros
   exact ds_ret ⟨_, rfl, rfl, by rw [cmpI, if_neg h, if_neg h2]⟩
theorem d_or (a b : Int) : DCalls Tryd.prog 1 ⟨.lf, 1⟩ 35 [.one (.f (.sl 1 2 [.c (.int .i64 a), .c (.int .i64 b)]))] fun d => d = .int (if a = 0 then b else a) := by
 refine dfn_ok cp35 rfl noro fun Z0 lo => ?_
 refine goD ?_; intros
 refine ds_loop (fun k E S nk => ∃ i : Nat, i + k = 2 /\ (i = 1 -> a = 0) /\ (i = 2 -> a = 0 /\ b = 0) /\ E = [(3, .int 0), (6, .one (.f (.sl 1 2 [.c (.int .i64 a), .c (.int .i64 b)]))), (7, .int 2), (8, .int i)] /\ S = [] /\ nk = 0) ⟨2, _, _, _, [], ?wk, 0, rfl, by simp, by simp, rfl, rfl, rfl⟩ ?_
 case wk => exact wkA
 rintro k E S nk ⟨i, hi, h1, h2, rfl, rfl, rfl⟩
 have e0 : subL [FD.c (.int .i64 a), FD.c (.int .i64 b)] (0 * 1) 1 = some [.c (.int .i64 a)] := rfl
 have e1 : subL [FD.c (.int .i64 a), FD.c (.int .i64 b)] (1 * 1) 1 = some [.c (.int .i64 b)] := rfl
 match i, hi with
 | 0, _ =>
  refine goD ?_; intros
  refine ds_if rfl (fun _ => ?_) (fun ht => by cases ht)
  refine goD ?_; intros
  refine ds_if rfl (fun ht => ?_) (fun ht => ?_)
  ·have h : ¬ a = 0 := by simpa using ht
   refine goD ?_; intros
   exact ds_ret ⟨_, rfl, rfl, by rw [if_neg h]⟩
  ·have h : a = 0 := by simpa using ht
   refine goD ?_; intros
   refine ⟨k - 1, by omega, _, _, _, [], ?wk1, 1, by omega, fun _ => h, by simp, rfl, rfl, rfl⟩
   case wk1 => exact wkA
 | 1, _ =>
  have h := h1 rfl
  refine goD ?_; intros
  refine ds_if rfl (fun _ => ?_) (fun ht => by cases ht)
  refine goD ?_; intros
  refine ds_if rfl (fun ht => ?_) (fun ht => ?_)
  ·refine goD ?_; intros
   exact ds_ret ⟨_, rfl, rfl, by rw [if_pos h]⟩
  ·have h' : b = 0 := by simpa using ht
   refine goD ?_; intros
   refine ⟨k - 1, by omega, _, _, _, [], ?wk2, 2, by omega, by simp, fun _ => ⟨h, h'⟩, rfl, rfl, rfl⟩
   case wk2 => exact wkA
 | 2, _ =>
  obtain ⟨h, h'⟩ := h2 rfl
  refine goD ?_; intros
  refine ds_if rfl (fun ht => by cases ht) (fun _ => ?_)
  refine goD ?_; intros
  exact ds_ret ⟨_, rfl, rfl, by rw [if_pos h, h']⟩
 | i + 3, h => omega
theorem cmpI_or (a b : Pt2) : (if cmpI a.2 b.2 = 0 then cmpI a.1 b.1 else cmpI a.2 b.2) = cmpP a b := by
 obtain ⟨a1, a2⟩ := a
 obtain ⟨b1, b2⟩ := b
 unfold cmpI cmpP before
 rcases Int.lt_trichotomy a2 b2 with h|h|h
 ·have h1 : ¬ b2 < a2 := by omega
  simp [h]
 ·subst h
  rcases Int.lt_trichotomy a1 b1 with h|h|h
  ·simp [h]
  ·subst h; simp
  ·have h1 : ¬ a1 < b1 := by omega
   have h2 : ¬ a1 = b1 := by omega
   simp [h, h1, h2]
 ·have h1 : ¬ a2 < b2 := by omega
  have h2 : ¬ a2 = b2 := by omega
  simp [h, h1, h2]
theorem d_cmp75 (a b : Pt2) : DCalls Tryd.prog 1 ⟨.lf, 1⟩ 34 [ptD a, ptD b] fun d => d = .int (cmpP a b) := by
 refine dfn_ok cp34 rfl noro fun Z0 lo => ?_
 refine goD ?_; intros
 refine dw_cf rfl rfl (d_cmpI a.2 b.2) ?_
 rintro _ rfl
 refine goD ?_; intros
 refine dw_cf rfl rfl (d_cmpI a.1 b.1) ?_
 rintro _ rfl
 refine goD ?_; intros
 refine dw_cfo (ds := [.one (.f (.sl 1 2 [.c (.int .i64 (cmpI a.2 b.2)), .c (.int .i64 (cmpI a.1 b.1))]))]) rfl ⟨⟨_, rfl, _, _, rfl, rfl, rfl⟩, trivial⟩ (d_or (cmpI a.2 b.2) (cmpI a.1 b.1)) (by rintro _ rfl; rfl) ?_
 rintro _ rfl
 refine goD ?_; intros
 refine ds_ret ⟨_, rfl, rfl, ?_⟩
 rw [cmpI_or]
theorem cmp34 : CmpAt 34 := cmpAt (enters_of Tryd.func34 (by kernel_rfl) rfl) fun a b => d_cmp75 a b
theorem far_comm (p q : Pt2) : far p q = far q p := by simp only [far]; omega
theorem mem_fars {a b : List Pt2} {z : Int} : z ∈ fars a b ↔ ∃ x ∈ a, ∃ y ∈ b, far x y = z := by simp [fars]
theorem dist_spec {a b : List Pt2} (ha : a ≠ []) (hb : b ≠ []) : (∃ x ∈ a, ∃ y ∈ b, far x y = dist a b) /\ ∀ x ∈ a, ∀ y ∈ b, dist a b <= far x y := by
 obtain ⟨p, a', rfl⟩ := List.exists_cons_of_ne_nil ha
 obtain ⟨q, b', rfl⟩ := List.exists_cons_of_ne_nil hb
 have hd : dist (p :: a') (q :: b') = (fars (p :: a') (q :: b')).foldl min (far p q) := rfl
 refine ⟨?_, fun x hx y hy => ?_⟩
 ·rcases foldl_min_mem (fars (p :: a') (q :: b')) (far p q) with h|h
  ·exact ⟨p, by simp, q, by simp, by rw [hd, h]⟩
  ·exact mem_fars.1 (hd ▸ h)
 ·rw [hd]
  exact (foldl_min_le _ _).2 _ (mem_fars.2 ⟨x, hx, y, hy, rfl⟩)
theorem dist_comm (a b : List Pt2) : dist a b = dist b a := by
 by_cases ha : a = []
 ·subst ha; cases b <;> rfl
 ·by_cases hb : b = []
  ·subst hb; cases a <;> rfl
  ·obtain ⟨⟨x, hx, y, hy, h⟩, h1⟩ := dist_spec ha hb
   obtain ⟨⟨x', hx', y', hy', h'⟩, h2⟩ := dist_spec hb ha
   have g1 := h1 y' hy' x' hx'
   have g2 := h2 y hy x hx
   rw [far_comm] at g1 g2
   omega
end Go.Af

namespace Go.Af
open Go.Ab
inductive Conn (gap : Int) (rest : List Pt2) (p : Pt2) : Pt2 -> Prop
 | base : p ∈ rest -> Conn gap rest p p
 | step {x y : Pt2} : Conn gap rest p x -> y ∈ rest -> far x y <= gap -> Conn gap rest p y
def minus (l c : List Pt2) : List Pt2 := l.filter fun x => !decide (x ∈ c)
inductive ClS (gap : Int) : List Pt2 -> List (List Pt2) -> Prop
 | nil : ClS gap [] []
 | cons {p : Pt2} {r c : List Pt2} {cs : List (List Pt2)} : ByRows c -> (∀ x, x ∈ c ↔ Conn gap (p :: r) p x) -> ClS gap (minus (p :: r) c) cs -> ClS gap (p :: r) (c :: cs)
theorem ByRows.nodup {l : List Pt2} (h : ByRows l) : l.Nodup := by
 refine List.Pairwise.imp ?_ h
 intro a b hab e
 subst e
 exact before_irrefl hab
theorem sub_len : ∀ {a b : List Pt2}, a.Nodup -> (∀ x ∈ a, x ∈ b) -> a.length <= b.length
 | [], b, _, _ => Nat.zero_le _
 | x :: a, b, hn, h => by
  rw [List.nodup_cons] at hn
  have hx := h x (by simp)
  have := sub_len (a := a) (b := b.erase x) hn.2 fun y hy => by
   rw [List.mem_erase_of_ne (fun e => hn.1 (by rw [<- e]; exact hy))]
   exact h y (by simp [hy])
  rw [List.length_erase_of_mem hx] at this
  have hpos : 0 < b.length := List.length_pos_of_mem hx
  simp only [List.length_cons]; omega
end Go.Af

namespace Go.Af
open Go.Ab Go.Proofs
set_option linter.unusedSimpArgs false
def ptsF (l : List Pt2) : FD := .sl 2 l.length (l.flatMap ptF)
end Go.Af

namespace Go.Af
open Go.Ab Go.Proofs
theorem SortedP.step {l : List Pt2} (hs : SortedP l) {i j : Nat} {x y : Pt2} (hi : l[i]? = some x) (hj : l[j]? = some y) (hij : i < j) (hne : y ≠ x) : before x y = true := before_total (by rw [hs i j x y hi hj hij]; decide) (fun e => hne e)
theorem rows_of_sorted {c : List Pt2} (hs : SortedP c) (hn : c.Nodup) : ByRows c := by
 rw [ByRows, List.pairwise_iff_getElem]
 intro i j hi hj hij
 refine hs.step (List.getElem?_eq_getElem hi) (List.getElem?_eq_getElem hj) hij fun e => ?_
 have := (List.getElem?_inj (i := i) (j := j) hi hn).1 (by rw [List.getElem?_eq_getElem hi, List.getElem?_eq_getElem hj, e])
 omega
end Go.Af

namespace Go.Af
open Go.Ab Go.Proofs
set_option linter.unusedSimpArgs false
theorem eqs_pt (neg : Bool) (p q : Pt) : aPure .lf (.eqs neg [(0, false), (1, false)] (.c (.agg (ptC p))) (.c (.agg (ptC q)))) = some (.bool (if neg then !decide (p = q) else decide (p = q))) := by
 obtain ⟨p1, p2⟩ := p
 obtain ⟨q1, q2⟩ := q
 simp only [aPure, Opd.ev, ptC, aEqs, aEq, List.getElem?_cons_zero, List.getElem?_cons_succ, if_true]
 by_cases h1 : p1 = q1
 ·by_cases h2 : p2 = q2
  ·subst h1; subst h2; simp
  ·subst h1
   have e2 : (p2 == q2) = false := by simpa using h2
   simp [h2, e2]
 ·have e1 : (p1 == q1) = false := by simpa using h1
  simp [h1, e1]
theorem samePts_ro {H : Hp} {l r : List Pt} {v u : V} (hl : Pts H l v) (hr : Pts H r u) (hn : l.length < 1000000000000) : ACalls Tryd.prog 1 7 [v, u] H fun x _ => x = .bool (decide (l = r)) := by
 refine pfn_ok cp7 (by simp [f7]) fun hwf => ?_
 have hlen := hl.len
 have hlen' := hr.len
 repeat (first|(refine pw_pick rfl rfl (by first|exact fun _ => rfl|exact fun h => (by simp only [if_pos h]; rfl)|exact fun h => (by simp only [if_pos h]; assumption)) (by first|exact fun _ => rfl|exact fun h => (by simp only [if_pos h]; rfl)|exact fun h => (by simp only [if_pos h]; assumption)) ?_)|(refine pw_mvt rfl ?_)|(refine pw_max rfl rfl rfl ?_)|(refine pw_min rfl rfl rfl ?_)|(refine pw_mvc ?_)|(refine pw_p rfl rfl ?_)|(refine pw_l1 rfl rfl (by assumption) ?_)|(refine pw_ln rfl rfl (by assumption) ?_)|(refine pw_lk1 rfl rfl (by assumption) ?_)|(refine pw_lkn rfl rfl (by assumption) ?_)|(refine pw_pg rfl rfl (by first|exact fun _ => rfl|exact fun _ => (by assumption)|exact fun h => (by simp only [if_pos h]; rfl)|exact fun h => (by simp only [if_pos h]; assumption)) ?_)|(refine pw_lg1 rfl rfl (by first|exact fun _ => rfl|exact fun h => (by simp only [if_pos h]; rfl)|exact fun h => (by simp only [if_pos h]; assumption)) (by assumption) ?_)|(refine pw_p rfl (by assumption) ?_)|(refine pw_nil ?_)|(refine ps_seq ?_)|(refine ps_ops0 mix ?_)|(refine ps_skip ?_)|(refine ps_block ?_))
 refine ps_if rfl rfl (fun ht => ?_) (fun ht => ?_)
 ·repeat (first|(refine pw_pick rfl rfl (by first|exact fun _ => rfl|exact fun h => (by simp only [if_pos h]; rfl)|exact fun h => (by simp only [if_pos h]; assumption)) (by first|exact fun _ => rfl|exact fun h => (by simp only [if_pos h]; rfl)|exact fun h => (by simp only [if_pos h]; assumption)) ?_)|(refine pw_mvt rfl ?_)|(refine pw_max rfl rfl rfl ?_)|(refine pw_min rfl rfl rfl ?_)|(refine pw_mvc ?_)|(refine pw_p rfl rfl ?_)|(refine pw_l1 rfl rfl (by assumption) ?_)|(refine pw_ln rfl rfl (by assumption) ?_)|(refine pw_lk1 rfl rfl (by assumption) ?_)|(refine pw_lkn rfl rfl (by assumption) ?_)|(refine pw_pg rfl rfl (by first|exact fun _ => rfl|exact fun _ => (by assumption)|exact fun h => (by simp only [if_pos h]; rfl)|exact fun h => (by simp only [if_pos h]; assumption)) ?_)|(refine pw_lg1 rfl rfl (by first|exact fun _ => rfl|exact fun h => (by simp only [if_pos h]; rfl)|exact fun h => (by simp only [if_pos h]; assumption)) (by assumption) ?_)|(refine pw_p rfl (by assumption) ?_)|(refine pw_nil ?_)|(refine ps_seq ?_)|(refine ps_ops0 mix ?_)|(refine ps_skip ?_)|(refine ps_block ?_))
  refine ps_ret ⟨_, rfl, ?_⟩
  simp at ht
  congr 2
  symm
  simp
  intro h
  exact ht (by rw [h])
 ·repeat (first|(refine pw_pick rfl rfl (by first|exact fun _ => rfl|exact fun h => (by simp only [if_pos h]; rfl)|exact fun h => (by simp only [if_pos h]; assumption)) (by first|exact fun _ => rfl|exact fun h => (by simp only [if_pos h]; rfl)|exact fun h => (by simp only [if_pos h]; assumption)) ?_)|(refine pw_mvt rfl ?_)|(refine pw_max rfl rfl rfl ?_)|(refine pw_min rfl rfl rfl ?_)|(refine pw_mvc ?_)|(refine pw_p rfl rfl ?_)|(refine pw_l1 rfl rfl (by assumption) ?_)|(refine pw_ln rfl rfl (by assumption) ?_)|(refine pw_lk1 rfl rfl (by assumption) ?_)|(refine pw_lkn rfl rfl (by assumption) ?_)|(refine pw_pg rfl rfl (by first|exact fun _ => rfl|exact fun _ => (by assumption)|exact fun h => (by simp only [if_pos h]; rfl)|exact fun h => (by simp only [if_pos h]; assumption)) ?_)|(refine pw_lg1 rfl rfl (by first|exact fun _ => rfl|exact fun h => (by simp only [if_pos h]; rfl)|exact fun h => (by simp only [if_pos h]; assumption)) (by assumption) ?_)|(refine pw_p rfl (by assumption) ?_)|(refine pw_nil ?_)|(refine ps_seq ?_)|(refine ps_ops0 mix ?_)|(refine ps_skip ?_)|(refine ps_block ?_))
  simp at ht
  refine ps_loop (fun m E H' => Pts H' l v /\ Pts H' r u /\ ∃ k : Nat, k + m = l.length /\ E = [(0, v), (1, u), (5, .int k)] /\ l.take k = r.take k) (m := l.length) ⟨_, (SubE.cons (k := 0) rfl (SubE.cons (k := 1) rfl (SubE.cons (k := 5) rfl (SubE.nil _)))), hl, hr, 0, oM, rfl, rfl⟩ ?_
  rintro m E H' hwf' ⟨hl', hr', k, hk, rfl, hno⟩
  repeat (first|(refine pw_pick rfl rfl (by first|exact fun _ => rfl|exact fun h => (by simp only [if_pos h]; rfl)|exact fun h => (by simp only [if_pos h]; assumption)) (by first|exact fun _ => rfl|exact fun h => (by simp only [if_pos h]; rfl)|exact fun h => (by simp only [if_pos h]; assumption)) ?_)|(refine pw_mvt rfl ?_)|(refine pw_max rfl rfl rfl ?_)|(refine pw_min rfl rfl rfl ?_)|(refine pw_mvc ?_)|(refine pw_p rfl rfl ?_)|(refine pw_l1 rfl rfl (by assumption) ?_)|(refine pw_ln rfl rfl (by assumption) ?_)|(refine pw_lk1 rfl rfl (by assumption) ?_)|(refine pw_lkn rfl rfl (by assumption) ?_)|(refine pw_pg rfl rfl (by first|exact fun _ => rfl|exact fun _ => (by assumption)|exact fun h => (by simp only [if_pos h]; rfl)|exact fun h => (by simp only [if_pos h]; assumption)) ?_)|(refine pw_lg1 rfl rfl (by first|exact fun _ => rfl|exact fun h => (by simp only [if_pos h]; rfl)|exact fun h => (by simp only [if_pos h]; assumption)) (by assumption) ?_)|(refine pw_p rfl (by assumption) ?_)|(refine pw_nil ?_)|(refine ps_seq ?_)|(refine ps_ops0 mix ?_)|(refine ps_skip ?_)|(refine ps_block ?_))
  refine ps_if rfl rfl (fun ht => ?_) (fun ht => ?_)
  ·simp at ht
   obtain ⟨p, hp⟩ : ∃ p, l[k]? = some p := ⟨_, List.getElem?_eq_getElem oM⟩
   obtain ⟨q, hq⟩ : ∃ p, r[k]? = some p := ⟨_, List.getElem?_eq_getElem oM⟩
   obtain ⟨b, o, e1, e2⟩ := hl'.at hp .i64
   obtain ⟨b', o', e1', e2'⟩ := hr'.at hq .i64
   repeat (first|(refine pw_pick rfl rfl (by first|exact fun _ => rfl|exact fun h => (by simp only [if_pos h]; rfl)|exact fun h => (by simp only [if_pos h]; assumption)) (by first|exact fun _ => rfl|exact fun h => (by simp only [if_pos h]; rfl)|exact fun h => (by simp only [if_pos h]; assumption)) ?_)|(refine pw_mvt rfl ?_)|(refine pw_max rfl rfl rfl ?_)|(refine pw_min rfl rfl rfl ?_)|(refine pw_mvc ?_)|(refine pw_p rfl rfl ?_)|(refine pw_l1 rfl rfl (by assumption) ?_)|(refine pw_ln rfl rfl (by assumption) ?_)|(refine pw_lk1 rfl rfl (by assumption) ?_)|(refine pw_lkn rfl rfl (by assumption) ?_)|(refine pw_pg rfl rfl (by first|exact fun _ => rfl|exact fun _ => (by assumption)|exact fun h => (by simp only [if_pos h]; rfl)|exact fun h => (by simp only [if_pos h]; assumption)) ?_)|(refine pw_lg1 rfl rfl (by first|exact fun _ => rfl|exact fun h => (by simp only [if_pos h]; rfl)|exact fun h => (by simp only [if_pos h]; assumption)) (by assumption) ?_)|(refine pw_p rfl (by assumption) ?_)|(refine pw_nil ?_)|(refine ps_seq ?_)|(refine ps_ops0 mix ?_)|(refine ps_skip ?_)|(refine ps_block ?_))
   refine ps_ops mix ?_
   repeat (first|(refine pw_pick rfl rfl (by first|exact fun _ => rfl|exact fun h => (by simp only [if_pos h]; rfl)|exact fun h => (by simp only [if_pos h]; assumption)) (by first|exact fun _ => rfl|exact fun h => (by simp only [if_pos h]; rfl)|exact fun h => (by simp only [if_pos h]; assumption)) ?_)|(refine pw_mvt rfl ?_)|(refine pw_max rfl rfl rfl ?_)|(refine pw_min rfl rfl rfl ?_)|(refine pw_mvc ?_)|(refine pw_p rfl rfl ?_)|(refine pw_l1 rfl rfl (by assumption) ?_)|(refine pw_ln rfl rfl (by assumption) ?_)|(refine pw_lk1 rfl rfl (by assumption) ?_)|(refine pw_lkn rfl rfl (by assumption) ?_)|(refine pw_pg rfl rfl (by first|exact fun _ => rfl|exact fun _ => (by assumption)|exact fun h => (by simp only [if_pos h]; rfl)|exact fun h => (by simp only [if_pos h]; assumption)) ?_)|(refine pw_lg1 rfl rfl (by first|exact fun _ => rfl|exact fun h => (by simp only [if_pos h]; rfl)|exact fun h => (by simp only [if_pos h]; assumption)) (by assumption) ?_)|(refine pw_p rfl (by assumption) ?_)|(refine pw_nil ?_)|(refine ps_seq ?_)|(refine ps_ops0 mix ?_)|(refine ps_skip ?_)|(refine ps_block ?_))
   refine pw_p rfl (eqs_pt true p q) ?_
   repeat (first|(refine pw_pick rfl rfl (by first|exact fun _ => rfl|exact fun h => (by simp only [if_pos h]; rfl)|exact fun h => (by simp only [if_pos h]; assumption)) (by first|exact fun _ => rfl|exact fun h => (by simp only [if_pos h]; rfl)|exact fun h => (by simp only [if_pos h]; assumption)) ?_)|(refine pw_mvt rfl ?_)|(refine pw_max rfl rfl rfl ?_)|(refine pw_min rfl rfl rfl ?_)|(refine pw_mvc ?_)|(refine pw_p rfl rfl ?_)|(refine pw_l1 rfl rfl (by assumption) ?_)|(refine pw_ln rfl rfl (by assumption) ?_)|(refine pw_lk1 rfl rfl (by assumption) ?_)|(refine pw_lkn rfl rfl (by assumption) ?_)|(refine pw_pg rfl rfl (by first|exact fun _ => rfl|exact fun _ => (by assumption)|exact fun h => (by simp only [if_pos h]; rfl)|exact fun h => (by simp only [if_pos h]; assumption)) ?_)|(refine pw_lg1 rfl rfl (by first|exact fun _ => rfl|exact fun h => (by simp only [if_pos h]; rfl)|exact fun h => (by simp only [if_pos h]; assumption)) (by assumption) ?_)|(refine pw_p rfl (by assumption) ?_)|(refine pw_nil ?_)|(refine ps_seq ?_)|(refine ps_ops0 mix ?_)|(refine ps_skip ?_)|(refine ps_block ?_))
   refine ps_if rfl rfl (fun ht2 => ?_) (fun ht2 => ?_)
   ·repeat (first|(refine pw_pick rfl rfl (by first|exact fun _ => rfl|exact fun h => (by simp only [if_pos h]; rfl)|exact fun h => (by simp only [if_pos h]; assumption)) (by first|exact fun _ => rfl|exact fun h => (by simp only [if_pos h]; rfl)|exact fun h => (by simp only [if_pos h]; assumption)) ?_)|(refine pw_mvt rfl ?_)|(refine pw_max rfl rfl rfl ?_)|(refine pw_min rfl rfl rfl ?_)|(refine pw_mvc ?_)|(refine pw_p rfl rfl ?_)|(refine pw_l1 rfl rfl (by assumption) ?_)|(refine pw_ln rfl rfl (by assumption) ?_)|(refine pw_lk1 rfl rfl (by assumption) ?_)|(refine pw_lkn rfl rfl (by assumption) ?_)|(refine pw_pg rfl rfl (by first|exact fun _ => rfl|exact fun _ => (by assumption)|exact fun h => (by simp only [if_pos h]; rfl)|exact fun h => (by simp only [if_pos h]; assumption)) ?_)|(refine pw_lg1 rfl rfl (by first|exact fun _ => rfl|exact fun h => (by simp only [if_pos h]; rfl)|exact fun h => (by simp only [if_pos h]; assumption)) (by assumption) ?_)|(refine pw_p rfl (by assumption) ?_)|(refine pw_nil ?_)|(refine ps_seq ?_)|(refine ps_ops0 mix ?_)|(refine ps_skip ?_)|(refine ps_block ?_))
    refine ps_ret ⟨_, rfl, ?_⟩
    simp at ht2
    congr 2
    symm
    simp
    intro h
    subst h
    rw [hp] at hq
    exact ht2 (Option.some.inj hq)
   ·repeat (first|(refine pw_pick rfl rfl (by first|exact fun _ => rfl|exact fun h => (by simp only [if_pos h]; rfl)|exact fun h => (by simp only [if_pos h]; assumption)) (by first|exact fun _ => rfl|exact fun h => (by simp only [if_pos h]; rfl)|exact fun h => (by simp only [if_pos h]; assumption)) ?_)|(refine pw_mvt rfl ?_)|(refine pw_max rfl rfl rfl ?_)|(refine pw_min rfl rfl rfl ?_)|(refine pw_mvc ?_)|(refine pw_p rfl rfl ?_)|(refine pw_l1 rfl rfl (by assumption) ?_)|(refine pw_ln rfl rfl (by assumption) ?_)|(refine pw_lk1 rfl rfl (by assumption) ?_)|(refine pw_lkn rfl rfl (by assumption) ?_)|(refine pw_pg rfl rfl (by first|exact fun _ => rfl|exact fun _ => (by assumption)|exact fun h => (by simp only [if_pos h]; rfl)|exact fun h => (by simp only [if_pos h]; assumption)) ?_)|(refine pw_lg1 rfl rfl (by first|exact fun _ => rfl|exact fun h => (by simp only [if_pos h]; rfl)|exact fun h => (by simp only [if_pos h]; assumption)) (by assumption) ?_)|(refine pw_p rfl (by assumption) ?_)|(refine pw_nil ?_)|(refine ps_seq ?_)|(refine ps_ops0 mix ?_)|(refine ps_skip ?_)|(refine ps_block ?_))
    simp at ht2
    subst ht2
    refine ⟨m - 1, oM, _, (SubE.cons (k := 0) rfl (SubE.cons (k := 1) rfl (SubE.cons (k := 5) rfl (SubE.nil _)))), hl'.le (fun _ _ _ h => h), hr'.le (fun _ _ _ h => h), k + 1, oM, ?_, ?_⟩
    ·rw [wrap_i64 (by omega) (by omega)]; rfl
    ·rw [List.take_add_one, List.take_add_one, hp, hq, hno]
  ·simp at ht
   obtain rfl : k = l.length := by omega
   rw [List.take_length, List.take_of_length_le (by omega)] at hno
   refine ps_exit ?_
   repeat (first|(refine pw_pick rfl rfl (by first|exact fun _ => rfl|exact fun h => (by simp only [if_pos h]; rfl)|exact fun h => (by simp only [if_pos h]; assumption)) (by first|exact fun _ => rfl|exact fun h => (by simp only [if_pos h]; rfl)|exact fun h => (by simp only [if_pos h]; assumption)) ?_)|(refine pw_mvt rfl ?_)|(refine pw_max rfl rfl rfl ?_)|(refine pw_min rfl rfl rfl ?_)|(refine pw_mvc ?_)|(refine pw_p rfl rfl ?_)|(refine pw_l1 rfl rfl (by assumption) ?_)|(refine pw_ln rfl rfl (by assumption) ?_)|(refine pw_lk1 rfl rfl (by assumption) ?_)|(refine pw_lkn rfl rfl (by assumption) ?_)|(refine pw_pg rfl rfl (by first|exact fun _ => rfl|exact fun _ => (by assumption)|exact fun h => (by simp only [if_pos h]; rfl)|exact fun h => (by simp only [if_pos h]; assumption)) ?_)|(refine pw_lg1 rfl rfl (by first|exact fun _ => rfl|exact fun h => (by simp only [if_pos h]; rfl)|exact fun h => (by simp only [if_pos h]; assumption)) (by assumption) ?_)|(refine pw_p rfl (by assumption) ?_)|(refine pw_nil ?_)|(refine ps_seq ?_)|(refine ps_ops0 mix ?_)|(refine ps_skip ?_)|(refine ps_block ?_))
   exact ps_ret ⟨_, rfl, by simp [hno]⟩
theorem samePts_ok {H : Hp} {l r : List Pt} {v u : V} (hl : Pts H l v) (hr : Pts H r u) (hn : l.length < 1000000000000) : ACalls Tryd.prog 1 7 [v, u] H fun x H' => x = .bool (decide (l = r)) /\ H' = H :=
 (ACalls.pure (samePts_ro (hl.le (Le.ro H)) (hr.le (Le.ro H)) hn) (fun v _ h => by rw [h]; rfl)).mono fun v H' ⟨⟨_, h⟩, e⟩ => ⟨h, e⟩
theorem ptsF_eq (l : List Pt2) : l.flatMap ptF = (ptsC l).map .c := by
 induction l with
 | nil => rfl
 | cons p l ih => rw [List.flatMap_cons, ih]; rfl
theorem ptsC_closed (l : List Pt2) : ∀ c ∈ ptsC l, c.closed = true := by
 intro c hc
 obtain ⟨p, _, hp⟩ := List.mem_flatMap.1 hc
 simp only [ptC, List.mem_cons, List.not_mem_nil, or_false] at hp
 rcases hp with rfl|rfl <;> rfl
theorem rd_of_own {Z : Nat -> Prop} {H' : Hp} {lo hi : Nat} {l : List Pt2} {v : V} (h : POwn H' lo hi l v) (hz : ∀ b, lo <= b -> b < hi -> Z b) : RDV Z H' nob (ptsD l) v := by
 obtain ⟨⟨h1, h2⟩, h3⟩ := h
 rcases h2 with ⟨rfl, h0⟩|⟨b, ex, rfl, hlo, hr⟩
 ·obtain rfl : l = [] := List.eq_nil_of_length_eq_zero h0
  exact ⟨_, rfl, .nil 2⟩
 ·have hb := h3 b rfl
  refine ⟨_, rfl, .sl (fun _ => hz b hb.1 hb.2) (by rw [ptF_len]) (Nat.le_refl _) (by rw [<- h1]; exact hr.2) fun i d c hd hc => ?_⟩
  rw [ptsF_eq, List.getElem?_map, hc] at hd
  obtain rfl := Option.some.inj hd
  exact .c c (ptsC_closed l c (List.mem_of_getElem? hc))
theorem pts_of_rd {Z : Nat -> Prop} {H : Hp} {l : List Pt2} {v : V} (h : RDV Z H nob (ptsD l) v) : Pts H l v := by
 obtain ⟨c, rfl, h⟩ := h
 refine ⟨Go.Ab.ptsC_len l, ?_⟩
 generalize hn : l.length = n at h
 generalize hq : l.flatMap ptF = q at h
 cases h with
 | nil => exact .inl ⟨rfl, rfl⟩
 | sl hz hl hcap hld hel =>
  rename_i b o cap ex cs
  refine .inr ⟨b, o, cap, ex, rfl, ?_⟩
  rw [hld]
  congr 1
  refine List.ext_getElem? fun i => ?_
  have hlen : cs.length = (ptsC l).length := by rw [loads_len hld, Go.Ab.ptsC_len, hn]
  by_cases hi : i < cs.length
  ·have e1 : q[i]? = some (.c (ptsC l)[i]) := by rw [<- hq, ptsF_eq, List.getElem?_map, List.getElem?_eq_getElem (by omega)]; rfl
   have := hel i _ _ e1 (List.getElem?_eq_getElem hi)
   rw [List.getElem?_eq_getElem hi, List.getElem?_eq_getElem (by omega)]
   generalize (ptsC l)[i] = z at *
   cases this
   rfl
  ·rw [List.getElem?_eq_none (by omega), List.getElem?_eq_none (by omega)]
theorem d_same {l r : List Pt2} (hn : l.length < 1000000000000) : DK 7 [ptsD l, ptsD r] fun d => d = .bool (decide (l = r)) := fun H Z args hw hz hg ha => by
 match args, ha with
 | [v, u], ⟨h1, h2, _⟩ =>
  refine (samePts_ok (pts_of_rd h1) (pts_of_rd h2) hn).mono ?_
  rintro x H' ⟨rfl, rfl⟩
  exact ⟨hw, Nat.le_refl _, fun _ _ => rfl, _, exact_ok rfl, rfl⟩
theorem tdiv_tmod {a b : Int} (hb : 0 < b) : (if a.tmod b < 0 then a.tdiv b - 1 else a.tdiv b) = a / b := by
 have h1 := Int.tmod_add_mul_tdiv a b
 have h2 := tmod_bd a hb
 have h3 := Int.emod_add_mul_ediv a b
 have h4 := Int.emod_nonneg a (by omega : b ≠ 0)
 have h5 := Int.emod_lt_of_pos a hb
 split
 ·rename_i h
  have key : b * (a.tdiv b - 1 - a / b) = a % b - a.tmod b - b := by
   rw [Int.mul_sub, Int.mul_sub]; omega
  have : a.tdiv b - 1 - a / b = 0 := by
   by_cases hc : a.tdiv b - 1 - a / b = 0
   ·exact hc
   ·exfalso
    rcases Int.lt_or_gt_of_ne hc with hlt|hgt
    ·have : b * (a.tdiv b - 1 - a / b) <= b * (-1) := Int.mul_le_mul_of_nonneg_left oM oM
     omega
    ·have : b * 1 <= b * (a.tdiv b - 1 - a / b) := Int.mul_le_mul_of_nonneg_left oM oM
     omega
  omega
 ·rename_i h
  have key : b * (a.tdiv b - a / b) = a % b - a.tmod b := by
   rw [Int.mul_sub]; omega
  have : a.tdiv b - a / b = 0 := by
   by_cases hc : a.tdiv b - a / b = 0
   ·exact hc
   ·exfalso
    rcases Int.lt_or_gt_of_ne hc with hlt|hgt
    ·have : b * (a.tdiv b - a / b) <= b * (-1) := Int.mul_le_mul_of_nonneg_left oM oM
     omega
    ·have : b * 1 <= b * (a.tdiv b - a / b) := Int.mul_le_mul_of_nonneg_left oM oM
     omega
  omega
theorem tdiv_bd {a b : Int} (h1 : -1000000000000000000 < a) (h2 : a < 1000000000000000000) : -1000000000000000000 < a.tdiv b /\ a.tdiv b < 1000000000000000000 := by
 have h : (a.tdiv b).natAbs = a.natAbs / b.natAbs := Int.natAbs_tdiv a b
 have h3 : a.natAbs / b.natAbs <= a.natAbs := Nat.div_le_self _ _
 rw [<- h] at h3
 omega
def betw (a b k n : Int) : Int := (2 * (a * n + k * (b - a)) + n) / (2 * n)
theorem mul_bd {a b A B : Int} (h1 : -A <= a) (h2 : a <= A) (h3 : -B <= b) (h4 : b <= B) : -(A * B) <= a * b /\ a * b <= A * B := by
 have hA : 0 <= A := by omega
 have hB : 0 <= B := by omega
 have : (a * b).natAbs <= (A * B).natAbs := by
  rw [Int.natAbs_mul, Int.natAbs_mul]
  exact Nat.mul_le_mul oM oM
 have hp : 0 <= A * B := Int.mul_nonneg hA hB
 omega
theorem between_ok {H : Hp} {a b k n : Int} (ha : -1000000 <= a) (ha' : a <= 1000000) (hb : -1000000 <= b) (hb' : b <= 1000000) (hk : 0 <= k) (hk' : k <= 1000000) (hn : 0 < n) (hn' : n <= 1000000) : ACalls Tryd.prog 1 58 [.int a, .int b, .int k, .int n] H fun v H' => v = .int (betw a b k n) /\ H' = H := by
 have m1 := mul_bd (a := a) (b := n) (A := 1000000) (B := 1000000) oM oM oM oM
 have m2 := mul_bd (a := k) (b := b - a) (A := 1000000) (B := 2000000) oM oM oM oM
 have hd := tdiv_bd (a := 2 * (a * n + k * (b - a)) + n) (b := 2 * n) oM oM
 have hf := tdiv_tmod (a := 2 * (a * n + k * (b - a)) + n) (b := 2 * n) oM
 refine pfn_ok cp58 (by simp [f58]) fun hwf => ?_
 repeat (first|(refine pw_pick rfl rfl (by first|exact fun _ => rfl|exact fun h => (by simp only [if_pos h]; rfl)|exact fun h => (by simp only [if_pos h]; assumption)) (by first|exact fun _ => rfl|exact fun h => (by simp only [if_pos h]; rfl)|exact fun h => (by simp only [if_pos h]; assumption)) ?_)|(refine pw_mvt rfl ?_)|(refine pw_max rfl rfl rfl ?_)|(refine pw_min rfl rfl rfl ?_)|(refine pw_mvc ?_)|(refine pw_p rfl rfl ?_)|(refine pw_l1 rfl rfl (by assumption) ?_)|(refine pw_ln rfl rfl (by assumption) ?_)|(refine pw_lk1 rfl rfl (by assumption) ?_)|(refine pw_lkn rfl rfl (by assumption) ?_)|(refine pw_pg rfl rfl (by first|exact fun _ => rfl|exact fun _ => (by assumption)|exact fun h => (by simp only [if_pos h]; rfl)|exact fun h => (by simp only [if_pos h]; assumption)) ?_)|(refine pw_lg1 rfl rfl (by first|exact fun _ => rfl|exact fun h => (by simp only [if_pos h]; rfl)|exact fun h => (by simp only [if_pos h]; assumption)) (by assumption) ?_)|(refine pw_p rfl (by assumption) ?_)|(refine pw_nil ?_)|(refine ps_seq ?_)|(refine ps_ops0 mix ?_)|(refine ps_skip ?_)|(refine ps_block ?_))
 rw [wrap_i64 (n := a * n) (by omega) (by omega), wrap_i64 (n := b - a) (by omega) (by omega), wrap_i64 (n := k * (b - a)) (by omega) (by omega), wrap_i64 (n := a * n + k * (b - a)) (by omega) (by omega), wrap_i64 (n := 2 * (a * n + k * (b - a))) (by omega) (by omega), wrap_i64 (n := 2 * (a * n + k * (b - a)) + n) (by omega) (by omega), wrap_i64 (n := 2 * n) (by omega) (by omega)]
 have hbt : betw a b k n = (2 * (a * n + k * (b - a)) + n) / (2 * n) := rfl
 rw [hbt]
 clear hbt
 generalize 2 * (a * n + k * (b - a)) + n = N at *
 refine pw_quo rfl rfl rfl oM ?_
 rw [wrap_i64 (n := N.tdiv (2 * n)) (by omega) (by omega)]
 repeat (first|(refine pw_pick rfl rfl (by first|exact fun _ => rfl|exact fun h => (by simp only [if_pos h]; rfl)|exact fun h => (by simp only [if_pos h]; assumption)) (by first|exact fun _ => rfl|exact fun h => (by simp only [if_pos h]; rfl)|exact fun h => (by simp only [if_pos h]; assumption)) ?_)|(refine pw_mvt rfl ?_)|(refine pw_max rfl rfl rfl ?_)|(refine pw_min rfl rfl rfl ?_)|(refine pw_mvc ?_)|(refine pw_p rfl rfl ?_)|(refine pw_l1 rfl rfl (by assumption) ?_)|(refine pw_ln rfl rfl (by assumption) ?_)|(refine pw_lk1 rfl rfl (by assumption) ?_)|(refine pw_lkn rfl rfl (by assumption) ?_)|(refine pw_pg rfl rfl (by first|exact fun _ => rfl|exact fun _ => (by assumption)|exact fun h => (by simp only [if_pos h]; rfl)|exact fun h => (by simp only [if_pos h]; assumption)) ?_)|(refine pw_lg1 rfl rfl (by first|exact fun _ => rfl|exact fun h => (by simp only [if_pos h]; rfl)|exact fun h => (by simp only [if_pos h]; assumption)) (by assumption) ?_)|(refine pw_p rfl (by assumption) ?_)|(refine pw_nil ?_)|(refine ps_seq ?_)|(refine ps_ops0 mix ?_)|(refine ps_skip ?_)|(refine ps_block ?_))
 rw [wrap_i64 (n := 2 * n) (by omega) (by omega)]
 refine pw_rem rfl rfl rfl oM ?_
 repeat (first|(refine pw_pick rfl rfl (by first|exact fun _ => rfl|exact fun h => (by simp only [if_pos h]; rfl)|exact fun h => (by simp only [if_pos h]; assumption)) (by first|exact fun _ => rfl|exact fun h => (by simp only [if_pos h]; rfl)|exact fun h => (by simp only [if_pos h]; assumption)) ?_)|(refine pw_mvt rfl ?_)|(refine pw_max rfl rfl rfl ?_)|(refine pw_min rfl rfl rfl ?_)|(refine pw_mvc ?_)|(refine pw_p rfl rfl ?_)|(refine pw_l1 rfl rfl (by assumption) ?_)|(refine pw_ln rfl rfl (by assumption) ?_)|(refine pw_lk1 rfl rfl (by assumption) ?_)|(refine pw_lkn rfl rfl (by assumption) ?_)|(refine pw_pg rfl rfl (by first|exact fun _ => rfl|exact fun _ => (by assumption)|exact fun h => (by simp only [if_pos h]; rfl)|exact fun h => (by simp only [if_pos h]; assumption)) ?_)|(refine pw_lg1 rfl rfl (by first|exact fun _ => rfl|exact fun h => (by simp only [if_pos h]; rfl)|exact fun h => (by simp only [if_pos h]; assumption)) (by assumption) ?_)|(refine pw_p rfl (by assumption) ?_)|(refine pw_nil ?_)|(refine ps_seq ?_)|(refine ps_ops0 mix ?_)|(refine ps_skip ?_)|(refine ps_block ?_))
 refine ps_if rfl rfl (fun ht => ?_) (fun ht => ?_)
 ·repeat (first|(refine pw_pick rfl rfl (by first|exact fun _ => rfl|exact fun h => (by simp only [if_pos h]; rfl)|exact fun h => (by simp only [if_pos h]; assumption)) (by first|exact fun _ => rfl|exact fun h => (by simp only [if_pos h]; rfl)|exact fun h => (by simp only [if_pos h]; assumption)) ?_)|(refine pw_mvt rfl ?_)|(refine pw_max rfl rfl rfl ?_)|(refine pw_min rfl rfl rfl ?_)|(refine pw_mvc ?_)|(refine pw_p rfl rfl ?_)|(refine pw_l1 rfl rfl (by assumption) ?_)|(refine pw_ln rfl rfl (by assumption) ?_)|(refine pw_lk1 rfl rfl (by assumption) ?_)|(refine pw_lkn rfl rfl (by assumption) ?_)|(refine pw_pg rfl rfl (by first|exact fun _ => rfl|exact fun _ => (by assumption)|exact fun h => (by simp only [if_pos h]; rfl)|exact fun h => (by simp only [if_pos h]; assumption)) ?_)|(refine pw_lg1 rfl rfl (by first|exact fun _ => rfl|exact fun h => (by simp only [if_pos h]; rfl)|exact fun h => (by simp only [if_pos h]; assumption)) (by assumption) ?_)|(refine pw_p rfl (by assumption) ?_)|(refine pw_nil ?_)|(refine ps_seq ?_)|(refine ps_ops0 mix ?_)|(refine ps_skip ?_)|(refine ps_block ?_))
  simp at ht
  rw [if_pos ht] at hf
  refine ps_ret ⟨_, rfl, ?_, rfl⟩
  rw [wrap_i64 (by omega) (by omega), hf]
 ·repeat (first|(refine pw_pick rfl rfl (by first|exact fun _ => rfl|exact fun h => (by simp only [if_pos h]; rfl)|exact fun h => (by simp only [if_pos h]; assumption)) (by first|exact fun _ => rfl|exact fun h => (by simp only [if_pos h]; rfl)|exact fun h => (by simp only [if_pos h]; assumption)) ?_)|(refine pw_mvt rfl ?_)|(refine pw_max rfl rfl rfl ?_)|(refine pw_min rfl rfl rfl ?_)|(refine pw_mvc ?_)|(refine pw_p rfl rfl ?_)|(refine pw_l1 rfl rfl (by assumption) ?_)|(refine pw_ln rfl rfl (by assumption) ?_)|(refine pw_lk1 rfl rfl (by assumption) ?_)|(refine pw_lkn rfl rfl (by assumption) ?_)|(refine pw_pg rfl rfl (by first|exact fun _ => rfl|exact fun _ => (by assumption)|exact fun h => (by simp only [if_pos h]; rfl)|exact fun h => (by simp only [if_pos h]; assumption)) ?_)|(refine pw_lg1 rfl rfl (by first|exact fun _ => rfl|exact fun h => (by simp only [if_pos h]; rfl)|exact fun h => (by simp only [if_pos h]; assumption)) (by assumption) ?_)|(refine pw_p rfl (by assumption) ?_)|(refine pw_nil ?_)|(refine ps_seq ?_)|(refine ps_ops0 mix ?_)|(refine ps_skip ?_)|(refine ps_block ?_))
  simp at ht
  rw [if_neg (by omega)] at hf
  exact ps_ret ⟨_, rfl, by rw [hf], rfl⟩
def nearB (l : List Pt) : Bool := l.all fun p => decide (-1000 <= p.1) && decide (p.1 <= 1000) && decide (-1000 <= p.2) && decide (p.2 <= 1000)
theorem near_ro {H : Hp} {l : List Pt} {v : V} (hl : Pts H l v) (hn : l.length < 1000000000000) : ACalls Tryd.prog 1 29 [v] H fun v _ => v = .bool (nearB l) := by
 refine pfn_ok cp29 (by simp [f29]) fun hwf => ?_
 have hlen := hl.len
 repeat (first|(refine pw_pick rfl rfl (by first|exact fun _ => rfl|exact fun h => (by simp only [if_pos h]; rfl)|exact fun h => (by simp only [if_pos h]; assumption)) (by first|exact fun _ => rfl|exact fun h => (by simp only [if_pos h]; rfl)|exact fun h => (by simp only [if_pos h]; assumption)) ?_)|(refine pw_mvt rfl ?_)|(refine pw_max rfl rfl rfl ?_)|(refine pw_min rfl rfl rfl ?_)|(refine pw_mvc ?_)|(refine pw_p rfl rfl ?_)|(refine pw_l1 rfl rfl (by assumption) ?_)|(refine pw_ln rfl rfl (by assumption) ?_)|(refine pw_lk1 rfl rfl (by assumption) ?_)|(refine pw_lkn rfl rfl (by assumption) ?_)|(refine pw_pg rfl rfl (by first|exact fun _ => rfl|exact fun _ => (by assumption)|exact fun h => (by simp only [if_pos h]; rfl)|exact fun h => (by simp only [if_pos h]; assumption)) ?_)|(refine pw_lg1 rfl rfl (by first|exact fun _ => rfl|exact fun h => (by simp only [if_pos h]; rfl)|exact fun h => (by simp only [if_pos h]; assumption)) (by assumption) ?_)|(refine pw_p rfl (by assumption) ?_)|(refine pw_nil ?_)|(refine ps_seq ?_)|(refine ps_ops0 mix ?_)|(refine ps_skip ?_)|(refine ps_block ?_))
 refine ps_loop (fun m E H' => Pts H' l v /\ ∃ k : Nat, k + m = l.length /\ E = [(5, v), (6, .int l.length), (7, .int k)] /\ nearB (l.take k) = true) (m := l.length) ⟨_, (SubE.cons (k := 5) rfl (SubE.cons (k := 6) rfl (SubE.cons (k := 7) rfl (SubE.nil _)))), hl, 0, oM, rfl, rfl⟩ ?_
 rintro m E H' hwf' ⟨hl', k, hk, rfl, hno⟩
 repeat (first|(refine pw_pick rfl rfl (by first|exact fun _ => rfl|exact fun h => (by simp only [if_pos h]; rfl)|exact fun h => (by simp only [if_pos h]; assumption)) (by first|exact fun _ => rfl|exact fun h => (by simp only [if_pos h]; rfl)|exact fun h => (by simp only [if_pos h]; assumption)) ?_)|(refine pw_mvt rfl ?_)|(refine pw_max rfl rfl rfl ?_)|(refine pw_min rfl rfl rfl ?_)|(refine pw_mvc ?_)|(refine pw_p rfl rfl ?_)|(refine pw_l1 rfl rfl (by assumption) ?_)|(refine pw_ln rfl rfl (by assumption) ?_)|(refine pw_lk1 rfl rfl (by assumption) ?_)|(refine pw_lkn rfl rfl (by assumption) ?_)|(refine pw_pg rfl rfl (by first|exact fun _ => rfl|exact fun _ => (by assumption)|exact fun h => (by simp only [if_pos h]; rfl)|exact fun h => (by simp only [if_pos h]; assumption)) ?_)|(refine pw_lg1 rfl rfl (by first|exact fun _ => rfl|exact fun h => (by simp only [if_pos h]; rfl)|exact fun h => (by simp only [if_pos h]; assumption)) (by assumption) ?_)|(refine pw_p rfl (by assumption) ?_)|(refine pw_nil ?_)|(refine ps_seq ?_)|(refine ps_ops0 mix ?_)|(refine ps_skip ?_)|(refine ps_block ?_))
 refine ps_if rfl rfl (fun ht => ?_) (fun ht => ?_)
 ·simp at ht
  obtain ⟨p, hp⟩ : ∃ p, l[k]? = some p := ⟨_, List.getElem?_eq_getElem oM⟩
  obtain ⟨b, o, e1, e2⟩ := hl'.at hp .i64
  obtain ⟨H3, s1, hw3, hx3, hb3, hn3⟩ := new_var hwf' [.int .i64 0, .int .i64 0] (ptC p) rfl
  repeat (first|(refine pw_pick rfl rfl (by first|exact fun _ => rfl|exact fun h => (by simp only [if_pos h]; rfl)|exact fun h => (by simp only [if_pos h]; assumption)) (by first|exact fun _ => rfl|exact fun h => (by simp only [if_pos h]; rfl)|exact fun h => (by simp only [if_pos h]; assumption)) ?_)|(refine pw_mvt rfl ?_)|(refine pw_max rfl rfl rfl ?_)|(refine pw_min rfl rfl rfl ?_)|(refine pw_mvc ?_)|(refine pw_p rfl rfl ?_)|(refine pw_l1 rfl rfl (by assumption) ?_)|(refine pw_ln rfl rfl (by assumption) ?_)|(refine pw_lk1 rfl rfl (by assumption) ?_)|(refine pw_lkn rfl rfl (by assumption) ?_)|(refine pw_pg rfl rfl (by first|exact fun _ => rfl|exact fun _ => (by assumption)|exact fun h => (by simp only [if_pos h]; rfl)|exact fun h => (by simp only [if_pos h]; assumption)) ?_)|(refine pw_lg1 rfl rfl (by first|exact fun _ => rfl|exact fun h => (by simp only [if_pos h]; rfl)|exact fun h => (by simp only [if_pos h]; assumption)) (by assumption) ?_)|(refine pw_p rfl (by assumption) ?_)|(refine pw_nil ?_)|(refine ps_seq ?_)|(refine ps_ops0 mix ?_)|(refine ps_skip ?_)|(refine ps_block ?_))
  have c0 := hb3.cell (i := 0) rfl
  have c1 := hb3.cell (i := 1) rfl
  refine pw_a rfl rfl (pw_stn rfl rfl rfl rfl s1 trivial ?_)
  repeat (first|(refine pw_pick rfl rfl (by first|exact fun _ => rfl|exact fun h => (by simp only [if_pos h]; rfl)|exact fun h => (by simp only [if_pos h]; assumption)) (by first|exact fun _ => rfl|exact fun h => (by simp only [if_pos h]; rfl)|exact fun h => (by simp only [if_pos h]; assumption)) ?_)|(refine pw_mvt rfl ?_)|(refine pw_max rfl rfl rfl ?_)|(refine pw_min rfl rfl rfl ?_)|(refine pw_mvc ?_)|(refine pw_p rfl rfl ?_)|(refine pw_l1 rfl rfl (by assumption) ?_)|(refine pw_ln rfl rfl (by assumption) ?_)|(refine pw_lk1 rfl rfl (by assumption) ?_)|(refine pw_lkn rfl rfl (by assumption) ?_)|(refine pw_pg rfl rfl (by first|exact fun _ => rfl|exact fun _ => (by assumption)|exact fun h => (by simp only [if_pos h]; rfl)|exact fun h => (by simp only [if_pos h]; assumption)) ?_)|(refine pw_lg1 rfl rfl (by first|exact fun _ => rfl|exact fun h => (by simp only [if_pos h]; rfl)|exact fun h => (by simp only [if_pos h]; assumption)) (by assumption) ?_)|(refine pw_p rfl (by assumption) ?_)|(refine pw_nil ?_)|(refine ps_seq ?_)|(refine ps_ops0 mix ?_)|(refine ps_skip ?_)|(refine ps_block ?_))
  have hpk : nearB (l.take (k + 1)) = (nearB (l.take k) && nearB [p]) := by
   rw [List.take_add_one, hp]
   simp [nearB]
  refine ps_if rfl rfl (fun ht2 => ?_) (fun ht2 => ?_)
  ·repeat (first|(refine pw_pick rfl rfl (by first|exact fun _ => rfl|exact fun h => (by simp only [if_pos h]; rfl)|exact fun h => (by simp only [if_pos h]; assumption)) (by first|exact fun _ => rfl|exact fun h => (by simp only [if_pos h]; rfl)|exact fun h => (by simp only [if_pos h]; assumption)) ?_)|(refine pw_mvt rfl ?_)|(refine pw_max rfl rfl rfl ?_)|(refine pw_min rfl rfl rfl ?_)|(refine pw_mvc ?_)|(refine pw_p rfl rfl ?_)|(refine pw_l1 rfl rfl (by assumption) ?_)|(refine pw_ln rfl rfl (by assumption) ?_)|(refine pw_lk1 rfl rfl (by assumption) ?_)|(refine pw_lkn rfl rfl (by assumption) ?_)|(refine pw_pg rfl rfl (by first|exact fun _ => rfl|exact fun _ => (by assumption)|exact fun h => (by simp only [if_pos h]; rfl)|exact fun h => (by simp only [if_pos h]; assumption)) ?_)|(refine pw_lg1 rfl rfl (by first|exact fun _ => rfl|exact fun h => (by simp only [if_pos h]; rfl)|exact fun h => (by simp only [if_pos h]; assumption)) (by assumption) ?_)|(refine pw_p rfl (by assumption) ?_)|(refine pw_nil ?_)|(refine ps_seq ?_)|(refine ps_ops0 mix ?_)|(refine ps_skip ?_)|(refine ps_block ?_))
   refine ps_ret ⟨_, rfl, ?_⟩
   congr 2
   symm
   simp at ht2
   simp only [nearB, List.all_eq_false]
   refine ⟨p, List.mem_of_getElem? hp, ?_⟩
   simp
   omega
  ·repeat (first|(refine pw_pick rfl rfl (by first|exact fun _ => rfl|exact fun h => (by simp only [if_pos h]; rfl)|exact fun h => (by simp only [if_pos h]; assumption)) (by first|exact fun _ => rfl|exact fun h => (by simp only [if_pos h]; rfl)|exact fun h => (by simp only [if_pos h]; assumption)) ?_)|(refine pw_mvt rfl ?_)|(refine pw_max rfl rfl rfl ?_)|(refine pw_min rfl rfl rfl ?_)|(refine pw_mvc ?_)|(refine pw_p rfl rfl ?_)|(refine pw_l1 rfl rfl (by assumption) ?_)|(refine pw_ln rfl rfl (by assumption) ?_)|(refine pw_lk1 rfl rfl (by assumption) ?_)|(refine pw_lkn rfl rfl (by assumption) ?_)|(refine pw_pg rfl rfl (by first|exact fun _ => rfl|exact fun _ => (by assumption)|exact fun h => (by simp only [if_pos h]; rfl)|exact fun h => (by simp only [if_pos h]; assumption)) ?_)|(refine pw_lg1 rfl rfl (by first|exact fun _ => rfl|exact fun h => (by simp only [if_pos h]; rfl)|exact fun h => (by simp only [if_pos h]; assumption)) (by assumption) ?_)|(refine pw_p rfl (by assumption) ?_)|(refine pw_nil ?_)|(refine ps_seq ?_)|(refine ps_ops0 mix ?_)|(refine ps_skip ?_)|(refine ps_block ?_))
   simp at ht2
   refine ⟨m - 1, oM, _, (SubE.cons (k := 5) rfl (SubE.cons (k := 6) rfl (SubE.cons (k := 7) rfl (SubE.nil _)))), hl'.ext hx3, k + 1, oM, ?_, ?_⟩
   ·rw [wrap_i64 (by omega) (by omega)]; rfl
   ·rw [hpk, hno]
    simp [nearB]
    omega
 ·simp at ht
  obtain rfl : k = l.length := by omega
  rw [List.take_length] at hno
  refine ps_exit ?_
  repeat (first|(refine pw_pick rfl rfl (by first|exact fun _ => rfl|exact fun h => (by simp only [if_pos h]; rfl)|exact fun h => (by simp only [if_pos h]; assumption)) (by first|exact fun _ => rfl|exact fun h => (by simp only [if_pos h]; rfl)|exact fun h => (by simp only [if_pos h]; assumption)) ?_)|(refine pw_mvt rfl ?_)|(refine pw_max rfl rfl rfl ?_)|(refine pw_min rfl rfl rfl ?_)|(refine pw_mvc ?_)|(refine pw_p rfl rfl ?_)|(refine pw_l1 rfl rfl (by assumption) ?_)|(refine pw_ln rfl rfl (by assumption) ?_)|(refine pw_lk1 rfl rfl (by assumption) ?_)|(refine pw_lkn rfl rfl (by assumption) ?_)|(refine pw_pg rfl rfl (by first|exact fun _ => rfl|exact fun _ => (by assumption)|exact fun h => (by simp only [if_pos h]; rfl)|exact fun h => (by simp only [if_pos h]; assumption)) ?_)|(refine pw_lg1 rfl rfl (by first|exact fun _ => rfl|exact fun h => (by simp only [if_pos h]; rfl)|exact fun h => (by simp only [if_pos h]; assumption)) (by assumption) ?_)|(refine pw_p rfl (by assumption) ?_)|(refine pw_nil ?_)|(refine ps_seq ?_)|(refine ps_ops0 mix ?_)|(refine ps_skip ?_)|(refine ps_block ?_))
  exact ps_ret ⟨_, rfl, by rw [hno]⟩
theorem near_ok {H : Hp} {l : List Pt} {v : V} (hl : Pts H l v) (hn : l.length < 1000000000000) : ACalls Tryd.prog 1 29 [v] H fun v H' => v = .bool (nearB l) /\ H' = H :=
 (ACalls.pure (near_ro (hl.le (Le.ro H)) hn) (fun v _ h => by rw [h]; rfl)).mono fun v H' ⟨⟨_, h⟩, e⟩ => ⟨h, e⟩
def lineK (p q : Pt) (n : Int) (k : Nat) : Pt := (betw p.1 q.1 k n, betw p.2 q.2 k n)
def lineP (p q : Pt) : List Pt := if far p q = 0 then [p] else (List.range ((far p q).toNat + 1)).map (lineK p q (far p q))
theorem far_bd {B : Int} {p q : Pt} (hp : Small B p) (hq : Small B q) : 0 <= far p q /\ far p q <= 2 * B := by
 obtain ⟨p1, p2, p3, p4⟩ := hp
 obtain ⟨q1, q2, q3, q4⟩ := hq
 simp only [far]
 omega
theorem line_ro {H : Hp} {p q : Pt} (hp : Small 1000 p) (hq : Small 1000 q) : ACalls Tryd.prog 1 51 [Go.Ab.ptV p, Go.Ab.ptV q] H fun v H' => POwn H' H.nx H'.nx (lineP p q) v := by
 have hfb := far_bd hp hq
 have hp' : Small 1000000000000000000 p := by obtain ⟨p1, p2, p3, p4⟩ := hp; exact ⟨oM, oM, oM, oM⟩
 have hq' : Small 1000000000000000000 q := by obtain ⟨p1, p2, p3, p4⟩ := hq; exact ⟨oM, oM, oM, oM⟩
 refine pfn_ok cp51 (by simp [f51]) fun hwf => ?_
 obtain ⟨hw1, hx1, hb1⟩ := new_box hwf (ptC p) rfl
 obtain ⟨hw2, hx2, hb2⟩ := new_box hw1 (ptC q) rfl
 refine ps_seq (ps_ops0 mix (pw_a rfl rfl (pw_a rfl rfl (pw_mvc (pw_nil ?_)))))
 replace hb1 := hb1.ext hx2
 have hn2 : ((H.push (.row (ptC p).length (ptC p) .lf true)).push (.row (ptC q).length (ptC q) .lf true)).nx = H.nx + 2 := rfl
 generalize ((H.push _).push _) = H2 at *
 have l1 := hb1.2
 have l2 := hb2.2
 refine ps_seq (ps_seq (ps_ops0 mix ?_))
 refine pw_ln rfl rfl l1 (pw_ln rfl rfl l2 ?_)
 obtain ⟨hw3, hx3, hb3⟩ := new_box (n := 4) hw2 (ptC p ++ ptC q) rfl
 refine pw_a (bk := .row 4 (ptC p ++ ptC q) .lf true) (g := fun b => .one (.slc b 0 2 2 2 true)) rfl rfl ?_
 have hpts : Pts (H2.push (.row 4 (ptC p ++ ptC q) .lf true)) [p, q] (.one (.slc H2.nx 0 2 2 2 true)) := ⟨rfl, .inr ⟨H2.nx, 0, 2, true, rfl, hb3.2⟩⟩
 have hnear : nearB [p, q] = true := by
  obtain ⟨p1, p2, p3, p4⟩ := hp
  obtain ⟨q1, q2, q3, q4⟩ := hq
  simp [nearB]
  omega
 refine pw_cfp rfl rfl (near_ok hpts (by simp)) (by repeat (first|exact trivial|refine ⟨by assumption, ?_⟩)) ?_
 rw [hnear]
 replace hb1 := hb1.ext hx3
 replace hb2 := hb2.ext hx3
 replace l1 := hb1.2
 replace l2 := hb2.2
 have hn3 : (H2.push (.row 4 (ptC p ++ ptC q) .lf true)).nx = H.nx + 3 := by simp [hn2]
 generalize (H2.push (.row 4 (ptC p ++ ptC q) .lf true)) = H3 at *
 repeat (first|(refine pw_pick rfl rfl (by first|exact fun _ => rfl|exact fun h => (by simp only [if_pos h]; rfl)|exact fun h => (by simp only [if_pos h]; assumption)) (by first|exact fun _ => rfl|exact fun h => (by simp only [if_pos h]; rfl)|exact fun h => (by simp only [if_pos h]; assumption)) ?_)|(refine pw_mvt rfl ?_)|(refine pw_max rfl rfl rfl ?_)|(refine pw_min rfl rfl rfl ?_)|(refine pw_mvc ?_)|(refine pw_p rfl rfl ?_)|(refine pw_l1 rfl rfl (by assumption) ?_)|(refine pw_ln rfl rfl (by assumption) ?_)|(refine pw_lk1 rfl rfl (by assumption) ?_)|(refine pw_lkn rfl rfl (by assumption) ?_)|(refine pw_pg rfl rfl (by first|exact fun _ => rfl|exact fun _ => (by assumption)|exact fun h => (by simp only [if_pos h]; rfl)|exact fun h => (by simp only [if_pos h]; assumption)) ?_)|(refine pw_lg1 rfl rfl (by first|exact fun _ => rfl|exact fun h => (by simp only [if_pos h]; rfl)|exact fun h => (by simp only [if_pos h]; assumption)) (by assumption) ?_)|(refine pw_p rfl (by assumption) ?_)|(refine pw_nil ?_)|(refine ps_seq ?_)|(refine ps_ops0 mix ?_)|(refine ps_skip ?_)|(refine ps_block ?_))
 refine ps_if rfl rfl (fun ht => by cases ht) (fun _ => ?_)
 repeat (first|(refine pw_pick rfl rfl (by first|exact fun _ => rfl|exact fun h => (by simp only [if_pos h]; rfl)|exact fun h => (by simp only [if_pos h]; assumption)) (by first|exact fun _ => rfl|exact fun h => (by simp only [if_pos h]; rfl)|exact fun h => (by simp only [if_pos h]; assumption)) ?_)|(refine pw_mvt rfl ?_)|(refine pw_max rfl rfl rfl ?_)|(refine pw_min rfl rfl rfl ?_)|(refine pw_mvc ?_)|(refine pw_p rfl rfl ?_)|(refine pw_l1 rfl rfl (by assumption) ?_)|(refine pw_ln rfl rfl (by assumption) ?_)|(refine pw_lk1 rfl rfl (by assumption) ?_)|(refine pw_lkn rfl rfl (by assumption) ?_)|(refine pw_pg rfl rfl (by first|exact fun _ => rfl|exact fun _ => (by assumption)|exact fun h => (by simp only [if_pos h]; rfl)|exact fun h => (by simp only [if_pos h]; assumption)) ?_)|(refine pw_lg1 rfl rfl (by first|exact fun _ => rfl|exact fun h => (by simp only [if_pos h]; rfl)|exact fun h => (by simp only [if_pos h]; assumption)) (by assumption) ?_)|(refine pw_p rfl (by assumption) ?_)|(refine pw_nil ?_)|(refine ps_seq ?_)|(refine ps_ops0 mix ?_)|(refine ps_skip ?_)|(refine ps_block ?_))
 refine pw_cfp rfl rfl (apart_ok hp' hq') (by repeat (first|exact trivial|refine ⟨by assumption, ?_⟩)) ?_
 repeat (first|(refine pw_pick rfl rfl (by first|exact fun _ => rfl|exact fun h => (by simp only [if_pos h]; rfl)|exact fun h => (by simp only [if_pos h]; assumption)) (by first|exact fun _ => rfl|exact fun h => (by simp only [if_pos h]; rfl)|exact fun h => (by simp only [if_pos h]; assumption)) ?_)|(refine pw_mvt rfl ?_)|(refine pw_max rfl rfl rfl ?_)|(refine pw_min rfl rfl rfl ?_)|(refine pw_mvc ?_)|(refine pw_p rfl rfl ?_)|(refine pw_l1 rfl rfl (by assumption) ?_)|(refine pw_ln rfl rfl (by assumption) ?_)|(refine pw_lk1 rfl rfl (by assumption) ?_)|(refine pw_lkn rfl rfl (by assumption) ?_)|(refine pw_pg rfl rfl (by first|exact fun _ => rfl|exact fun _ => (by assumption)|exact fun h => (by simp only [if_pos h]; rfl)|exact fun h => (by simp only [if_pos h]; assumption)) ?_)|(refine pw_lg1 rfl rfl (by first|exact fun _ => rfl|exact fun h => (by simp only [if_pos h]; rfl)|exact fun h => (by simp only [if_pos h]; assumption)) (by assumption) ?_)|(refine pw_p rfl (by assumption) ?_)|(refine pw_nil ?_)|(refine ps_seq ?_)|(refine ps_ops0 mix ?_)|(refine ps_skip ?_)|(refine ps_block ?_))
 refine ps_sub (SubE.cons (k := 2) rfl (SubE.cons (k := 3) rfl (SubE.cons (k := 5) rfl (SubE.cons (k := 17) rfl (SubE.nil _))))) ?_
 generalize hn : far p q = n at *
 refine ps_if rfl rfl (fun ht => ?_) (fun ht => ?_)
 ·simp at ht
  repeat (first|(refine pw_pick rfl rfl (by first|exact fun _ => rfl|exact fun h => (by simp only [if_pos h]; rfl)|exact fun h => (by simp only [if_pos h]; assumption)) (by first|exact fun _ => rfl|exact fun h => (by simp only [if_pos h]; rfl)|exact fun h => (by simp only [if_pos h]; assumption)) ?_)|(refine pw_mvt rfl ?_)|(refine pw_max rfl rfl rfl ?_)|(refine pw_min rfl rfl rfl ?_)|(refine pw_mvc ?_)|(refine pw_p rfl rfl ?_)|(refine pw_l1 rfl rfl (by assumption) ?_)|(refine pw_ln rfl rfl (by assumption) ?_)|(refine pw_lk1 rfl rfl (by assumption) ?_)|(refine pw_lkn rfl rfl (by assumption) ?_)|(refine pw_pg rfl rfl (by first|exact fun _ => rfl|exact fun _ => (by assumption)|exact fun h => (by simp only [if_pos h]; rfl)|exact fun h => (by simp only [if_pos h]; assumption)) ?_)|(refine pw_lg1 rfl rfl (by first|exact fun _ => rfl|exact fun h => (by simp only [if_pos h]; rfl)|exact fun h => (by simp only [if_pos h]; assumption)) (by assumption) ?_)|(refine pw_p rfl (by assumption) ?_)|(refine pw_nil ?_)|(refine ps_seq ?_)|(refine ps_ops0 mix ?_)|(refine ps_skip ?_)|(refine ps_block ?_))
  refine pw_b1 rfl rfl rfl ?_
  refine pw_mvt rfl (pw_nil (ps_ret ⟨_, rfl, ?_⟩))
  rw [lineP, if_pos (by omega)]
  refine ⟨⟨rfl, .inr ⟨H3.nx, true, rfl, by omega, ?_⟩⟩, fun b hb => by obtain rfl := Option.some.inj hb; simp; omega⟩
  exact Row.new (ptC p)
 ·simp at ht
  repeat (first|(refine pw_pick rfl rfl (by first|exact fun _ => rfl|exact fun h => (by simp only [if_pos h]; rfl)|exact fun h => (by simp only [if_pos h]; assumption)) (by first|exact fun _ => rfl|exact fun h => (by simp only [if_pos h]; rfl)|exact fun h => (by simp only [if_pos h]; assumption)) ?_)|(refine pw_mvt rfl ?_)|(refine pw_max rfl rfl rfl ?_)|(refine pw_min rfl rfl rfl ?_)|(refine pw_mvc ?_)|(refine pw_p rfl rfl ?_)|(refine pw_l1 rfl rfl (by assumption) ?_)|(refine pw_ln rfl rfl (by assumption) ?_)|(refine pw_lk1 rfl rfl (by assumption) ?_)|(refine pw_lkn rfl rfl (by assumption) ?_)|(refine pw_pg rfl rfl (by first|exact fun _ => rfl|exact fun _ => (by assumption)|exact fun h => (by simp only [if_pos h]; rfl)|exact fun h => (by simp only [if_pos h]; assumption)) ?_)|(refine pw_lg1 rfl rfl (by first|exact fun _ => rfl|exact fun h => (by simp only [if_pos h]; rfl)|exact fun h => (by simp only [if_pos h]; assumption)) (by assumption) ?_)|(refine pw_p rfl (by assumption) ?_)|(refine pw_nil ?_)|(refine ps_seq ?_)|(refine ps_ops0 mix ?_)|(refine ps_skip ?_)|(refine ps_block ?_))
  obtain ⟨N, hN⟩ : ∃ N : Nat, n = N := ⟨n.toNat, oM⟩
  subst hN
  rw [wrap_i64 (n := (N : Int) + 1) (by omega) (by omega)]
  refine pw_mkc (n := 0) (m := N + 1) rfl rfl rfl oM oM oM ?_
  have hr0 : PRoom (H3.push (.row ((N + 1) * 2) [.int .i64 0, .int .i64 0] .lf true)) H3.nx (N + 1) [] := PRoom.new (by rw [Hp.get_push, if_pos rfl])
  have hx4 := Ext.push hw3 (Ext.refl H3) (.row ((N + 1) * 2) [.int .i64 0, .int .i64 0] .lf true)
  replace hb1 := hb1.ext hx4
  replace hb2 := hb2.ext hx4
  have hn4 : (H3.push (.row ((N + 1) * 2) [.int .i64 0, .int .i64 0] .lf true)).nx = H.nx + 4 := by simp [hn3]
  generalize (H3.push (.row ((N + 1) * 2) [.int .i64 0, .int .i64 0] .lf true)) = H4 at *
  rw [hn3] at hr0 ⊢
  repeat (first|(refine pw_pick rfl rfl (by first|exact fun _ => rfl|exact fun h => (by simp only [if_pos h]; rfl)|exact fun h => (by simp only [if_pos h]; assumption)) (by first|exact fun _ => rfl|exact fun h => (by simp only [if_pos h]; rfl)|exact fun h => (by simp only [if_pos h]; assumption)) ?_)|(refine pw_mvt rfl ?_)|(refine pw_max rfl rfl rfl ?_)|(refine pw_min rfl rfl rfl ?_)|(refine pw_mvc ?_)|(refine pw_p rfl rfl ?_)|(refine pw_l1 rfl rfl (by assumption) ?_)|(refine pw_ln rfl rfl (by assumption) ?_)|(refine pw_lk1 rfl rfl (by assumption) ?_)|(refine pw_lkn rfl rfl (by assumption) ?_)|(refine pw_pg rfl rfl (by first|exact fun _ => rfl|exact fun _ => (by assumption)|exact fun h => (by simp only [if_pos h]; rfl)|exact fun h => (by simp only [if_pos h]; assumption)) ?_)|(refine pw_lg1 rfl rfl (by first|exact fun _ => rfl|exact fun h => (by simp only [if_pos h]; rfl)|exact fun h => (by simp only [if_pos h]; assumption)) (by assumption) ?_)|(refine pw_p rfl (by assumption) ?_)|(refine pw_nil ?_)|(refine ps_seq ?_)|(refine ps_ops0 mix ?_)|(refine ps_skip ?_)|(refine ps_block ?_))
  rw [wrap_i64 (n := (N : Int) + 1) (by omega) (by omega)]
  refine ps_loop (fun m E H' => ∃ k : Nat, k + m = N + 1 /\ E = [(2, .one (.ptr H.nx 0)), (3, .one (.ptr (H.nx + 1) 0)), (5, .int N), (6, .one (.slc (H.nx + 3) 0 k (N + 1) 2 true)), (24, .int (N + 1)), (25, .int k)] /\ H.nx + 4 <= H'.nx /\ Row H' H.nx (ptC p) /\ Row H' (H.nx + 1) (ptC q) /\ PRoom H' (H.nx + 3) (N + 1) ((List.range k).map (lineK p q N))) (m := N + 1) ⟨_, (SubE.cons (k := 2) rfl (SubE.cons (k := 3) rfl (SubE.cons (k := 5) rfl (SubE.cons (k := 6) rfl (SubE.cons (k := 24) rfl (SubE.cons (k := 25) rfl (SubE.nil _))))))), 0, oM, rfl, oM, hb1, hb2, hr0⟩ ?_
  rintro m E H' hwf' ⟨k, hk, rfl, hnx, g1, g2, hP'⟩
  have c0 := g1.cell (i := 0) rfl
  have c1 := g1.cell (i := 1) rfl
  have d0 := g2.cell (i := 0) rfl
  have d1 := g2.cell (i := 1) rfl
  obtain ⟨p1, p2, p3, p4⟩ := hp
  obtain ⟨q1, q2, q3, q4⟩ := hq
  repeat (first|(refine pw_pick rfl rfl (by first|exact fun _ => rfl|exact fun h => (by simp only [if_pos h]; rfl)|exact fun h => (by simp only [if_pos h]; assumption)) (by first|exact fun _ => rfl|exact fun h => (by simp only [if_pos h]; rfl)|exact fun h => (by simp only [if_pos h]; assumption)) ?_)|(refine pw_mvt rfl ?_)|(refine pw_max rfl rfl rfl ?_)|(refine pw_min rfl rfl rfl ?_)|(refine pw_mvc ?_)|(refine pw_p rfl rfl ?_)|(refine pw_l1 rfl rfl (by assumption) ?_)|(refine pw_ln rfl rfl (by assumption) ?_)|(refine pw_lk1 rfl rfl (by assumption) ?_)|(refine pw_lkn rfl rfl (by assumption) ?_)|(refine pw_pg rfl rfl (by first|exact fun _ => rfl|exact fun _ => (by assumption)|exact fun h => (by simp only [if_pos h]; rfl)|exact fun h => (by simp only [if_pos h]; assumption)) ?_)|(refine pw_lg1 rfl rfl (by first|exact fun _ => rfl|exact fun h => (by simp only [if_pos h]; rfl)|exact fun h => (by simp only [if_pos h]; assumption)) (by assumption) ?_)|(refine pw_p rfl (by assumption) ?_)|(refine pw_nil ?_)|(refine ps_seq ?_)|(refine ps_ops0 mix ?_)|(refine ps_skip ?_)|(refine ps_block ?_))
  refine ps_if rfl rfl (fun ht2 => ?_) (fun ht2 => ?_)
  ·simp at ht2
   repeat (first|(refine pw_pick rfl rfl (by first|exact fun _ => rfl|exact fun h => (by simp only [if_pos h]; rfl)|exact fun h => (by simp only [if_pos h]; assumption)) (by first|exact fun _ => rfl|exact fun h => (by simp only [if_pos h]; rfl)|exact fun h => (by simp only [if_pos h]; assumption)) ?_)|(refine pw_mvt rfl ?_)|(refine pw_max rfl rfl rfl ?_)|(refine pw_min rfl rfl rfl ?_)|(refine pw_mvc ?_)|(refine pw_p rfl rfl ?_)|(refine pw_l1 rfl rfl (by assumption) ?_)|(refine pw_ln rfl rfl (by assumption) ?_)|(refine pw_lk1 rfl rfl (by assumption) ?_)|(refine pw_lkn rfl rfl (by assumption) ?_)|(refine pw_pg rfl rfl (by first|exact fun _ => rfl|exact fun _ => (by assumption)|exact fun h => (by simp only [if_pos h]; rfl)|exact fun h => (by simp only [if_pos h]; assumption)) ?_)|(refine pw_lg1 rfl rfl (by first|exact fun _ => rfl|exact fun h => (by simp only [if_pos h]; rfl)|exact fun h => (by simp only [if_pos h]; assumption)) (by assumption) ?_)|(refine pw_p rfl (by assumption) ?_)|(refine pw_nil ?_)|(refine ps_seq ?_)|(refine ps_ops0 mix ?_)|(refine ps_skip ?_)|(refine ps_block ?_))
   refine ps_ops mix ?_
   repeat (first|(refine pw_pick rfl rfl (by first|exact fun _ => rfl|exact fun h => (by simp only [if_pos h]; rfl)|exact fun h => (by simp only [if_pos h]; assumption)) (by first|exact fun _ => rfl|exact fun h => (by simp only [if_pos h]; rfl)|exact fun h => (by simp only [if_pos h]; assumption)) ?_)|(refine pw_mvt rfl ?_)|(refine pw_max rfl rfl rfl ?_)|(refine pw_min rfl rfl rfl ?_)|(refine pw_mvc ?_)|(refine pw_p rfl rfl ?_)|(refine pw_l1 rfl rfl (by assumption) ?_)|(refine pw_ln rfl rfl (by assumption) ?_)|(refine pw_lk1 rfl rfl (by assumption) ?_)|(refine pw_lkn rfl rfl (by assumption) ?_)|(refine pw_pg rfl rfl (by first|exact fun _ => rfl|exact fun _ => (by assumption)|exact fun h => (by simp only [if_pos h]; rfl)|exact fun h => (by simp only [if_pos h]; assumption)) ?_)|(refine pw_lg1 rfl rfl (by first|exact fun _ => rfl|exact fun h => (by simp only [if_pos h]; rfl)|exact fun h => (by simp only [if_pos h]; assumption)) (by assumption) ?_)|(refine pw_p rfl (by assumption) ?_)|(refine pw_nil ?_)|(refine ps_seq ?_)|(refine ps_ops0 mix ?_)|(refine ps_skip ?_)|(refine ps_block ?_))
   refine pw_cfp rfl rfl (between_ok oM oM oM oM oM oM oM oM) (by repeat (first|exact trivial|refine ⟨by assumption, ?_⟩)) ?_
   repeat (first|(refine pw_pick rfl rfl (by first|exact fun _ => rfl|exact fun h => (by simp only [if_pos h]; rfl)|exact fun h => (by simp only [if_pos h]; assumption)) (by first|exact fun _ => rfl|exact fun h => (by simp only [if_pos h]; rfl)|exact fun h => (by simp only [if_pos h]; assumption)) ?_)|(refine pw_mvt rfl ?_)|(refine pw_max rfl rfl rfl ?_)|(refine pw_min rfl rfl rfl ?_)|(refine pw_mvc ?_)|(refine pw_p rfl rfl ?_)|(refine pw_l1 rfl rfl (by assumption) ?_)|(refine pw_ln rfl rfl (by assumption) ?_)|(refine pw_lk1 rfl rfl (by assumption) ?_)|(refine pw_lkn rfl rfl (by assumption) ?_)|(refine pw_pg rfl rfl (by first|exact fun _ => rfl|exact fun _ => (by assumption)|exact fun h => (by simp only [if_pos h]; rfl)|exact fun h => (by simp only [if_pos h]; assumption)) ?_)|(refine pw_lg1 rfl rfl (by first|exact fun _ => rfl|exact fun h => (by simp only [if_pos h]; rfl)|exact fun h => (by simp only [if_pos h]; assumption)) (by assumption) ?_)|(refine pw_p rfl (by assumption) ?_)|(refine pw_nil ?_)|(refine ps_seq ?_)|(refine ps_ops0 mix ?_)|(refine ps_skip ?_)|(refine ps_block ?_))
   refine pw_cfp rfl rfl (between_ok oM oM oM oM oM oM oM oM) (by repeat (first|exact trivial|refine ⟨by assumption, ?_⟩)) ?_
   repeat (first|(refine pw_pick rfl rfl (by first|exact fun _ => rfl|exact fun h => (by simp only [if_pos h]; rfl)|exact fun h => (by simp only [if_pos h]; assumption)) (by first|exact fun _ => rfl|exact fun h => (by simp only [if_pos h]; rfl)|exact fun h => (by simp only [if_pos h]; assumption)) ?_)|(refine pw_mvt rfl ?_)|(refine pw_max rfl rfl rfl ?_)|(refine pw_min rfl rfl rfl ?_)|(refine pw_mvc ?_)|(refine pw_p rfl rfl ?_)|(refine pw_l1 rfl rfl (by assumption) ?_)|(refine pw_ln rfl rfl (by assumption) ?_)|(refine pw_lk1 rfl rfl (by assumption) ?_)|(refine pw_lkn rfl rfl (by assumption) ?_)|(refine pw_pg rfl rfl (by first|exact fun _ => rfl|exact fun _ => (by assumption)|exact fun h => (by simp only [if_pos h]; rfl)|exact fun h => (by simp only [if_pos h]; assumption)) ?_)|(refine pw_lg1 rfl rfl (by first|exact fun _ => rfl|exact fun h => (by simp only [if_pos h]; rfl)|exact fun h => (by simp only [if_pos h]; assumption)) (by assumption) ?_)|(refine pw_p rfl (by assumption) ?_)|(refine pw_nil ?_)|(refine ps_seq ?_)|(refine ps_ops0 mix ?_)|(refine ps_skip ?_)|(refine ps_block ?_))
   refine pw_b1i (cs := ptC (lineK p q N k)) rfl rfl rfl ?_
   have hkl : ((List.range k).map (lineK p q N)).length = k := by simp
   generalize hH5 : Hp.add (Hp.skip H' 19) (H'.nx + 16) (.row (ptC (lineK p q N k)).length (ptC (lineK p q N k)) .lf true) = H5
   have hold : ∀ b, b < H'.nx -> H5.get b = H'.get b := fun b hb => by rw [<- hH5, Hp.get_add_ne _ _ (by omega), Hp.get_skip]
   have hsrc : H5.loads (H'.nx + 16) 0 (1 * 2) = some (ptC (lineK p q N k)) := loads_row (cs := ptC (lineK p q N k)) (rw := true) (by rw [<- hH5, Hp.get_add_self])
   obtain ⟨H6, a1, a2, a3, a4⟩ := (hP'.same (hold (H.nx + 3) (by omega))).append (by rw [hkl]; omega) 16 true (lineK p q N k)
   rw [hkl] at a1
   refine pw_app rfl rfl rfl (src_row hsrc) a1 (watch_all (allCtx.mem ?_)) ?_
   ·refine ⟨?_, ?_, trivial⟩
    ·exact ((g2.same (hold _ oM)).same (a3 _ oM)).cell rfl
    ·exact ((g1.same (hold _ oM)).same (a3 _ oM)).cell rfl
   repeat (first|(refine pw_pick rfl rfl (by first|exact fun _ => rfl|exact fun h => (by simp only [if_pos h]; rfl)|exact fun h => (by simp only [if_pos h]; assumption)) (by first|exact fun _ => rfl|exact fun h => (by simp only [if_pos h]; rfl)|exact fun h => (by simp only [if_pos h]; assumption)) ?_)|(refine pw_mvt rfl ?_)|(refine pw_max rfl rfl rfl ?_)|(refine pw_min rfl rfl rfl ?_)|(refine pw_mvc ?_)|(refine pw_p rfl rfl ?_)|(refine pw_l1 rfl rfl (by assumption) ?_)|(refine pw_ln rfl rfl (by assumption) ?_)|(refine pw_lk1 rfl rfl (by assumption) ?_)|(refine pw_lkn rfl rfl (by assumption) ?_)|(refine pw_pg rfl rfl (by first|exact fun _ => rfl|exact fun _ => (by assumption)|exact fun h => (by simp only [if_pos h]; rfl)|exact fun h => (by simp only [if_pos h]; assumption)) ?_)|(refine pw_lg1 rfl rfl (by first|exact fun _ => rfl|exact fun h => (by simp only [if_pos h]; rfl)|exact fun h => (by simp only [if_pos h]; assumption)) (by assumption) ?_)|(refine pw_p rfl (by assumption) ?_)|(refine pw_nil ?_)|(refine ps_seq ?_)|(refine ps_ops0 mix ?_)|(refine ps_skip ?_)|(refine ps_block ?_))
   have hn6 : H6.nx = H'.nx + 19 := by rw [a4, <- hH5]; simp
   refine ⟨m - 1, oM, _, (SubE.cons (k := 2) rfl (SubE.cons (k := 3) rfl (SubE.cons (k := 5) rfl (SubE.cons (k := 6) rfl (SubE.cons (k := 24) rfl (SubE.cons (k := 25) rfl (SubE.nil _))))))), k + 1, oM, ?_, oM, (g1.same (hold _ oM)).same (a3 _ oM), (g2.same (hold _ oM)).same (a3 _ oM), ?_⟩
   ·rw [wrap_i64 (by omega) (by omega)]; rfl
   ·rw [List.range_succ, List.map_append]; exact a2
  ·simp at ht2
   obtain rfl : k = N + 1 := by omega
   refine ps_exit ?_
   repeat (first|(refine pw_pick rfl rfl (by first|exact fun _ => rfl|exact fun h => (by simp only [if_pos h]; rfl)|exact fun h => (by simp only [if_pos h]; assumption)) (by first|exact fun _ => rfl|exact fun h => (by simp only [if_pos h]; rfl)|exact fun h => (by simp only [if_pos h]; assumption)) ?_)|(refine pw_mvt rfl ?_)|(refine pw_max rfl rfl rfl ?_)|(refine pw_min rfl rfl rfl ?_)|(refine pw_mvc ?_)|(refine pw_p rfl rfl ?_)|(refine pw_l1 rfl rfl (by assumption) ?_)|(refine pw_ln rfl rfl (by assumption) ?_)|(refine pw_lk1 rfl rfl (by assumption) ?_)|(refine pw_lkn rfl rfl (by assumption) ?_)|(refine pw_pg rfl rfl (by first|exact fun _ => rfl|exact fun _ => (by assumption)|exact fun h => (by simp only [if_pos h]; rfl)|exact fun h => (by simp only [if_pos h]; assumption)) ?_)|(refine pw_lg1 rfl rfl (by first|exact fun _ => rfl|exact fun h => (by simp only [if_pos h]; rfl)|exact fun h => (by simp only [if_pos h]; assumption)) (by assumption) ?_)|(refine pw_p rfl (by assumption) ?_)|(refine pw_nil ?_)|(refine ps_seq ?_)|(refine ps_ops0 mix ?_)|(refine ps_skip ?_)|(refine ps_block ?_))
   refine ps_ret ⟨_, rfl, ?_⟩
   rw [lineP, hn, if_neg ht, Int.toNat_natCast]
   have := hP'.full (lo := H.nx) (hi := H'.nx) (ex := true) (by simp) (by omega) (by omega)
   simpa using this
theorem line_ok {H : Hp} {p q : Pt} (hp : Small 1000 p) (hq : Small 1000 q) : ACalls Tryd.prog 1 51 [Go.Ab.ptV p, Go.Ab.ptV q] H fun v H' => POwn H' H.nx H'.nx (lineP p q) v /\ Ext H H' :=
 (ACalls.grow (line_ro hp hq)).mono fun v H' ⟨H1, hg, e1, e2, e3, e4, _⟩ => by
  subst e1
  exact ⟨hg.same fun b hb => e4 b (hg.2 b hb).1, e3, e2⟩
theorem d_line {p q : Pt2} (hp : Small 1000 p) (hq : Small 1000 q) : DK 51 [ptD p, ptD q] fun d => d = ptsD (lineP p q) := fun H Z args hw hz hg ha => by
 rw [exVL_ok (ds := [ptD p, ptD q]) (vs := [Go.Ab.ptV p, Go.Ab.ptV q]) ⟨rfl, rfl, trivial⟩ ha]
 refine (ACalls.none (ACalls.wf (line_ok hp hq))).mono ?_
 rintro v H' ⟨⟨⟨ho, hx⟩, hw'⟩, hno⟩
 refine ⟨hw', hx.nx, fun b hb => ?_, _, rd_of_own ho fun b h1 h2 => .inr ⟨h1, h2⟩, rfl⟩
 cases hgb : H.get b with
 | none => exact hno b hb hgb
 | some bk => exact hx.get b bk hgb
theorem shift_div (x t : Int) {n : Int} (hn : 0 < n) : (x + 2 * n * t) / (2 * n) = x / (2 * n) + t := Int.add_mul_ediv_left x t oM
theorem half_div (a : Int) {n : Int} (hn : 0 < n) : (2 * (a * n) + n) / (2 * n) = a := by
 have h := shift_div n a hn
 rw [show n + 2 * n * a = 2 * (a * n) + n by rw [Int.mul_assoc, Int.mul_comm n a]; omega] at h
 rw [h, Int.ediv_eq_zero_of_lt (by omega) (by omega)]
 omega
theorem betw_zero (a b : Int) {n : Int} (hn : 0 < n) : betw a b 0 n = a := by
 unfold betw
 rw [Int.zero_mul, Int.add_zero]
 exact half_div a hn
theorem betw_full (a b : Int) {n : Int} (hn : 0 < n) : betw a b n n = b := by
 unfold betw
 rw [show a * n + n * (b - a) = b * n by rw [Int.mul_sub, Int.mul_comm n b, Int.mul_comm n a]; omega]
 exact half_div b hn
theorem betw_in (a b k : Int) {n : Int} (hn : 0 < n) (h0 : 0 <= k) (h1 : k <= n) : min a b <= betw a b k n /\ betw a b k n <= max a b := by
 have e := half_div (min a b) hn
 have f := half_div (max a b) hn
 have hx : min a b * n <= a * n + k * (b - a) /\ a * n + k * (b - a) <= max a b * n := by
  by_cases hab : a <= b
  ·rw [Int.min_eq_left hab, Int.max_eq_right hab]
   have g1 : 0 <= k * (b - a) := Int.mul_nonneg h0 oM
   have g2 : k * (b - a) <= n * (b - a) := Int.mul_le_mul_of_nonneg_right h1 oM
   rw [Int.mul_sub n, Int.mul_comm n b, Int.mul_comm n a] at g2
   omega
  ·rw [Int.min_eq_right (by omega), Int.max_eq_left (by omega)]
   have g1 : 0 <= k * (a - b) := Int.mul_nonneg h0 oM
   have g2 : k * (a - b) <= n * (a - b) := Int.mul_le_mul_of_nonneg_right h1 oM
   rw [Int.mul_sub n, Int.mul_comm n b, Int.mul_comm n a] at g2
   have g3 : k * (b - a) = - (k * (a - b)) := by rw [<- Int.mul_neg]; congr 1; omega
   omega
 unfold betw
 constructor
 ·have := Int.ediv_le_ediv (a := 2 * (min a b * n) + n) (b := 2 * (a * n + k * (b - a)) + n) (c := 2 * n) oM oM
  omega
 ·have := Int.ediv_le_ediv (a := 2 * (a * n + k * (b - a)) + n) (b := 2 * (max a b * n) + n) (c := 2 * n) oM oM
  omega
theorem lineP_len (p q : Pt2) : (lineP p q).length = (far p q).toNat + 1 := by
 unfold lineP
 split
 ·rename_i h; rw [h]; rfl
 ·simp
def lineAt (p q : Pt2) (k : Nat) : Pt2 := if far p q = 0 then p else lineK p q (far p q) k
theorem lineP_at (p q : Pt2) {k : Nat} (hk : (k : Int) <= far p q) : (lineP p q)[k]? = some (lineAt p q k) := by
 unfold lineP lineAt
 split
 ·rename_i h
  obtain rfl : k = 0 := by omega
  rfl
 ·rw [List.getElem?_map, List.getElem?_range (by omega)]; rfl
theorem far_abs (p q : Pt2) : far p q = max (q.1 - p.1) (max (p.1 - q.1) (max (q.2 - p.2) (p.2 - q.2))) := by simp only [far]; omega
theorem lineAt_zero (p q : Pt2) : lineAt p q 0 = p := by
 have := far_abs p q
 unfold lineAt
 split
 ·rfl
 ·simp only [lineK]
  rw [Int.natCast_zero, betw_zero _ _ (by omega), betw_zero _ _ (by omega)]
theorem lineAt_full (p q : Pt2) : lineAt p q (far p q).toNat = q := by
 have h := far_abs p q
 unfold lineAt
 split
 ·obtain ⟨p1, p2⟩ := p
  obtain ⟨q1, q2⟩ := q
  simp only [Prod.mk.injEq] at *
  omega
 ·simp only [lineK]
  rw [Int.toNat_of_nonneg (by omega), betw_full _ _ (by omega), betw_full _ _ (by omega)]
theorem lineAt_in (p q : Pt2) {k : Nat} (hk : (k : Int) <= far p q) : min p.1 q.1 <= (lineAt p q k).1 /\ (lineAt p q k).1 <= max p.1 q.1 /\ min p.2 q.2 <= (lineAt p q k).2 /\ (lineAt p q k).2 <= max p.2 q.2 := by
 have h := far_abs p q
 unfold lineAt
 split
 ·omega
 ·simp only [lineK]
  have h1 := betw_in p.1 q.1 k (n := far p q) oM oM hk
  have h2 := betw_in p.2 q.2 k (n := far p q) oM oM hk
  omega
theorem x_sfunc {l : List Pt2} (hl : l.Nodup) (h0 : 0 < l.length) (hn : l.length < 1000000) : DKX 32 [.one (.fn 49 [(1, 0)]), fnK 34] [(0, mapB l), (1, .cells [.om 0])] 2
  fun d S' nk' => d = .one (.own 6 0 (sortedP l).length 2) /\ SubA [(6, .data ((sortedP l).flatMap ptF))] S' /\ nk' = 7 := by
 refine dxk_ok cp32 rfl fun Z β H lo => ?_
 refine goD ?_; intros
 refine dw_cx rfl rfl rfl (DX.sub (x_coll hl hn _ _ _ _ _) (SubA.cons rfl (SubA.cons rfl (SubA.nil _)))) ?_
 rintro _ S' _ ⟨out, h1, h2, rfl, h3, h4, rfl⟩
 refine dw_keep (SubA.refl _) h4 ?_
 have hp : 0 < out.length := by
  cases out with
  | nil =>
   cases l with
   | nil => simp at h0
   | cons x l => exact absurd ((h2 x).2 (by simp)) (by simp)
  | cons => simp
 refine goD ?_; intros
 refine dw_cx rfl rfl rfl (dx_sortK cmp34 (k := 6) (l := out) rfl hp oM _ _ _ _ _) ?_
 rintro _ _ _ ⟨rfl, rfl, l', hp', hs, rfl⟩
 have hl' : l'.Nodup := hp'.symm.nodup h1
 have he : l' = sortedP l := ByRows.ext (rows_of_sorted hs hl') (sortedP_rows l) fun p => by rw [sortedP_mem, hp'.mem_iff, h2]
 have hlen : out.length = (sortedP l).length := by rw [<- he, hp'.length_eq]
 rw [hlen, he]
 refine goD ?_; intros
 exact ds_ret ⟨_, rfl, rfl, _, SubA.refl _, rfl, SubA.cons rfl (SubA.nil _), rfl⟩
theorem x_sorted {l : List Pt2} (hl : l.Nodup) (h0 : 0 < l.length) (hn : l.length < 1000000) : DKX 24 [.one (.om 0)] [(0, mapB l)] 1
  fun d S' nk' => d = .one (.own 6 0 (sortedP l).length 2) /\ SubA [(6, .data ((sortedP l).flatMap ptF))] S' /\ nk' = 7 := by
 refine dxk_ok cp24 rfl fun Z β H lo => ?_
 refine goD ?_; intros
 refine dw_cx rfl rfl rfl (x_mkeys l _ _ _ _ _) ?_
 rintro _ S' _ ⟨rfl, h4, rfl⟩
 refine dw_keep (SubA.refl _) h4 ?_
 refine goD ?_; intros
 refine dw_cx rfl rfl rfl (x_sfunc hl h0 hn _ _ _ _ _) ?_
 rintro _ S' _ ⟨rfl, h4, rfl⟩
 refine dw_keep (SubA.refl _) h4 ?_
 refine goD ?_; intros
 exact ds_ret ⟨_, rfl, rfl, _, SubA.refl _, rfl, SubA.cons rfl (SubA.nil _), rfl⟩
def putL (l L : List Pt2) : List Pt2 := L.foldl putP l
theorem putL_mem {p : Pt2} : ∀ {L l : List Pt2}, p ∈ putL l L ↔ p ∈ l \/ p ∈ L
 | [], l => by simp [putL]
 | q :: L, l => by
  show p ∈ putL (putP l q) L ↔ _
  rw [putL_mem, putP_mem, List.mem_cons, or_assoc]
theorem putL_nodup : ∀ {L l : List Pt2}, l.Nodup -> (putL l L).Nodup
 | [], _, h => h
 | q :: L, _, h => putL_nodup (L := L) (putP_nodup h)
theorem putP_le (l : List Pt2) (p : Pt2) : l.length <= (putP l p).length /\ (putP l p).length <= l.length + 1 := by
 unfold putP
 split
 ·omega
 ·rw [List.length_append, List.length_singleton]; omega
theorem putL_le : ∀ (L l : List Pt2), l.length <= (putL l L).length /\ (putL l L).length <= l.length + L.length
 | [], l => by simp [putL]
 | q :: L, l => by
  have := putL_le L (putP l q)
  have := putP_le l q
  show _ <= (putL (putP l q) L).length /\ (putL (putP l q) L).length <= _
  rw [List.length_cons]
  omega
theorem putL_take {l L : List Pt2} {i : Nat} {p : Pt2} (h : L[i]? = some p) : putL l (L.take (i + 1)) = putP (putL l (L.take i)) p := by
 unfold putL
 rw [List.take_add_one, h, List.foldl_append]
 rfl
theorem lineP_len_le {p q : Pt2} (hp : Small 1000 p) (hq : Small 1000 q) : (lineP p q).length <= 2001 := by
 have h1 := lineP_len p q
 have h2 := far_abs p q
 unfold Small at hp hq
 omega
theorem x_add {l : List Pt2} {a b : Pt2} (ha : Small 1000 a) (hb : Small 1000 b) : DKX 37 [.one (.om 0), ptD a, ptD b] [(0, mapB l)] 1
  fun d S' nk' => d = .tup [] /\ SubA [(0, mapB (putL l (lineP a b)))] S' /\ nk' = 1 := by
 refine dxk_ok cp37 rfl fun Z β H lo => ?_
 have hln := lineP_len_le ha hb
 refine goD ?_; intros
 refine dw_cf rfl rfl (d_line ha hb) ?_
 rintro _ rfl
 refine goD ?_; intros
 refine ds_loop (fun m E S nk => ∃ i : Nat, i + m = (lineP a b).length /\ E = [(0, .one (.om 0)), (10, ptsD (lineP a b)), (11, .int (lineP a b).length), (12, .int i)] /\ S = [(0, mapB (putL l ((lineP a b).take i)))] /\ nk = 1)
  ⟨(lineP a b).length, _, _, _, [], ?wk, 0, oM, rfl, rfl, rfl⟩ ?_
 case wk => exact wkA
 rintro m E S nk ⟨i, hi, rfl, rfl, rfl⟩
 refine goD ?_; intros
 refine ds_if rfl (fun ht => ?_) (fun ht => ?_)
 ·have ht : i < (lineP a b).length := by simpa using ht
  obtain ⟨q, hq⟩ : ∃ q, (lineP a b)[i]? = some q := ⟨_, List.getElem?_eq_getElem ht⟩
  have e1 := ptF_at hq
  refine goD ?_; intros
  refine dw_stupd rfl rfl rfl rfl (stUp_pt _ q) rfl ?_
  rw [<- putL_take hq]
  refine goD ?_; intros
  refine ⟨m - 1, oM, _, _, _, [], ?wk1, i + 1, oM, rfl, rfl, rfl⟩
  case wk1 => exact wkA
 ·have ht : i = (lineP a b).length := by have : ¬ i < (lineP a b).length := by simpa using ht
                                         omega
  subst ht
  rw [List.take_length]
  refine goD ?_; intros
  exact ⟨_, rfl, rfl, _, SubA.refl _, rfl, SubA.cons rfl (SubA.nil _), rfl⟩
def Smalls3 (L : List Pt2) : Prop := ∀ p ∈ L, Small 1000 p
structure Along (L : List Pt2) (n : Nat) (l : List Pt2) : Prop where
 nd : l.Nodup
 le : l.length <= 2001 * n
 mem : ∀ p, p ∈ l ↔ ∃ (i : Nat) (a b : Pt2), i < n /\ L[i]? = some a /\ L[i + 1]? = some b /\ p ∈ lineP a b
theorem Along.zero (L : List Pt2) : Along L 0 [] := ⟨List.nodup_nil, by simp, fun p => by simp⟩
theorem Along.succ {L l : List Pt2} {n : Nat} {a b : Pt2} (h : Along L n l) (ha : L[n]? = some a) (hb : L[n + 1]? = some b) (hl : Smalls3 L) : Along L (n + 1) (putL l (lineP a b)) := by
 refine ⟨putL_nodup h.nd, ?_, fun p => ?_⟩
 ·have h1 := (putL_le (lineP a b) l).2
  have h2 := lineP_len_le (hl a (List.mem_of_getElem? ha)) (hl b (List.mem_of_getElem? hb))
  have h3 := h.le
  omega
 ·rw [putL_mem, h.mem]
  constructor
  ·rintro (⟨i, a', b', h1, h2, h3, h4⟩|h1)
   ·exact ⟨i, a', b', oM, h2, h3, h4⟩
   ·exact ⟨n, a, b, oM, ha, hb, h1⟩
  ·rintro ⟨i, a', b', h1, h2, h3, h4⟩
   by_cases hi : i = n
   ·subst hi
    rw [ha] at h2
    rw [hb] at h3
    obtain rfl := Option.some.inj h2
    obtain rfl := Option.some.inj h3
    exact .inr h4
   ·exact .inl ⟨i, a', b', oM, h2, h3, h4⟩
theorem do_along {L : List Pt2} (hl : Smalls3 L) (hn : L.length < 100) : DKO 25 [ptsD L] fun d S nk => ∃ l, Along L (L.length - 1) l /\ d = .one (.om 0) /\ S = [(0, mapB l)] /\ nk = 1 := by
 refine dfnO_ok cp25 rfl GHro fun Z0 lo => ?_
 refine goD ?_; intros
 refine dw_mkst ?_
 refine goD ?_; intros
 refine ds_loop (fun m E S nk => ∃ (i : Nat) (l : List Pt2), i + m = L.length /\ (i = 0 \/ i < L.length) /\ Along L i l /\ E = [(0, ptsD L), (3, .one (.om 0)), (4, .int (i + 1 : Nat))] /\ S = [(0, mapB l)] /\ nk = 1)
  ⟨L.length, _, _, _, [], ?wk, 0, [], oM, .inl rfl, Along.zero L, rfl, rfl, rfl⟩ ?_
 case wk => exact wkA
 rintro m E S nk ⟨i, l, hi, hi0, hA, rfl, rfl, rfl⟩
 refine goD ?_; intros
 refine ds_if rfl (fun ht => ?_) (fun ht => ?_)
 ·have ht : i + 1 < L.length := by have := of_decide_eq_true ht; omega
  obtain ⟨a, ha⟩ : ∃ q, L[i]? = some q := ⟨_, List.getElem?_eq_getElem oM⟩
  obtain ⟨b, hb⟩ : ∃ q, L[i + 1]? = some q := ⟨_, List.getElem?_eq_getElem ht⟩
  have e1 := ptF_at ha
  have e2 := ptF_at hb
  have hw : IntKind.i64.wrap (((i + 1 : Nat) : Int) - 1) = ((i : Nat) : Int) := by rw [dwrap (by omega) (by omega)]; omega
  refine goD ?_; intros
  rw [hw]
  refine goD ?_; intros
  refine dw_cx rfl rfl rfl (x_add (hl a (List.mem_of_getElem? ha)) (hl b (List.mem_of_getElem? hb)) _ _ _ _ _) ?_
  rintro _ S' _ ⟨rfl, hS, rfl⟩
  refine dw_keep (SubA.refl _) hS ?_
  refine goD ?_; intros
  refine ⟨m - 1, oM, _, _, _, [], ?wk1, i + 1, _, oM, .inr oM, hA.succ ha hb hl, rfl, rfl, rfl⟩
  case wk1 => exact wkA
 ·have ht : L.length <= i + 1 := by have := of_decide_eq_false ht; omega
  obtain rfl : i = L.length - 1 := by omega
  refine goD ?_; intros
  exact ds_ret ⟨_, rfl, rfl, _, SubA.refl _, l, hA, rfl, rfl, rfl⟩
def nxt (L : List Pt2) (i : Nat) : Nat := (i + 1) % L.length
structure Around (L : List Pt2) (l : List Pt2) : Prop where
 nd : l.Nodup
 le : l.length <= 2001 * L.length
 mem : ∀ p, p ∈ l ↔ ∃ (i : Nat) (a b : Pt2), L[i]? = some a /\ L[nxt L i]? = some b /\ p ∈ lineP a b
theorem Along.around {L l : List Pt2} {a b : Pt2} (h : Along L (L.length - 1) l) (hl : Smalls3 L) (h0 : 0 < L.length) (ha : L[L.length - 1]? = some a) (hb : L[0]? = some b) : Around L (putL l (lineP a b)) := by
 refine ⟨putL_nodup h.nd, ?_, fun p => ?_⟩
 ·have h1 := (putL_le (lineP a b) l).2
  have h2 := lineP_len_le (hl a (List.mem_of_getElem? ha)) (hl b (List.mem_of_getElem? hb))
  have h3 := h.le
  omega
 ·rw [putL_mem, h.mem]
  constructor
  ·rintro (⟨i, a', b', h1, h2, h3, h4⟩|h1)
   ·exact ⟨i, a', b', h2, by rw [nxt, Nat.mod_eq_of_lt (by omega)]; exact h3, h4⟩
   ·exact ⟨L.length - 1, a, b, ha, by rw [nxt, show L.length - 1 + 1 = L.length by omega, Nat.mod_self]; exact hb, h1⟩
  ·rintro ⟨i, a', b', h2, h3, h4⟩
   have hi := (List.getElem?_eq_some_iff.1 h2).1
   by_cases hx : i = L.length - 1
   ·subst hx
    rw [ha] at h2
    rw [nxt, show L.length - 1 + 1 = L.length by omega, Nat.mod_self, hb] at h3
    obtain rfl := Option.some.inj h2
    obtain rfl := Option.some.inj h3
    exact .inr h4
   ·rw [nxt, Nat.mod_eq_of_lt (by omega)] at h3
    exact .inl ⟨i, a', b', oM, h2, h3, h4⟩
theorem do_around {L : List Pt2} (hl : Smalls3 L) (h0 : 0 < L.length) (hn : L.length < 100) : DKO 26 [ptsD L] fun d S nk => ∃ l, Around L l /\ d = .one (.om 0) /\ S = [(0, mapB l)] /\ nk = 1 := by
 refine dfnO_ok cp26 rfl GHro fun Z0 lo => ?_
 obtain ⟨a, ha⟩ : ∃ q, L[L.length - 1]? = some q := ⟨_, List.getElem?_eq_getElem oM⟩
 obtain ⟨b, hb⟩ : ∃ q, L[0]? = some q := ⟨_, List.getElem?_eq_getElem oM⟩
 have e1 := ptF_at ha
 have e2 := ptF_at hb
 have hw : IntKind.i64.wrap ((L.length : Int) - 1) = ((L.length - 1 : Nat) : Int) := by rw [dwrap (by omega) (by omega)]; omega
 refine goD ?_; intros
 refine dw_cfr rfl rfl (do_along hl hn) ?_
 rintro _ _ _ ⟨l, hA, rfl, rfl, rfl⟩
 refine dw_keep (S0 := [(0, mapB l)]) (SubA.refl _) (SubA.cons rfl (SubA.nil _)) ?_
 refine goD ?_; intros
 refine ds_if rfl (fun _ => ?_) (fun ht => ?_)
 ·refine goD ?_; intros
  rw [hw]
  refine goD ?_; intros
  refine dw_cx rfl rfl rfl (x_add (hl a (List.mem_of_getElem? ha)) (hl b (List.mem_of_getElem? hb)) _ _ _ _ _) ?_
  rintro _ S' _ ⟨rfl, hS, rfl⟩
  refine dw_keep (SubA.refl _) hS ?_
  refine goD ?_; intros
  exact ds_ret ⟨_, rfl, rfl, _, SubA.refl _, _, hA.around hl h0 ha hb, rfl, rfl, rfl⟩
 ·have := of_decide_eq_false ht
  omega
def crs (a b p : Pt2) : Int := (b.1 - a.1) * (p.2 - a.2) - (b.2 - a.2) * (p.1 - a.1)
def onP (a b p : Pt2) : Bool := decide (crs a b p = 0) && (decide (min a.1 b.1 <= p.1) && decide (p.1 <= max a.1 b.1) && decide (min a.2 b.2 <= p.2) && decide (p.2 <= max a.2 b.2))
def pasP (a b p : Pt2) : Bool := if decide (a.2 <= p.2) = decide (b.2 <= p.2) then false else if a.2 < b.2 then decide ((p.1 - a.1) * (b.2 - a.2) < (p.2 - a.2) * (b.1 - a.1)) else decide ((p.2 - a.2) * (b.1 - a.1) < (p.1 - a.1) * (b.2 - a.2))
theorem small_sub {p q : Pt2} (hp : Small 1000 p) (hq : Small 1000 q) : (-2000 <= p.1 - q.1 /\ p.1 - q.1 <= 2000) /\ (-2000 <= p.2 - q.2 /\ p.2 - q.2 <= 2000) := by
 unfold Small at hp hq; omega
theorem mulw {a b : Int} (ha : -2000 <= a /\ a <= 2000) (hb : -2000 <= b /\ b <= 2000) : IntKind.i64.wrap (IntKind.i64.wrap a * IntKind.i64.wrap b) = a * b := by
 rw [dwrap (n := a) (by omega) (by omega), dwrap (n := b) (by omega) (by omega)]
 have := mul_bd (A := 2000) (B := 2000) ha.1 ha.2 hb.1 hb.2
 exact dwrap oM oM
theorem crs_same {a b : Pt2} : onP a b a = true /\ onP a b b = true := by
 have e1 : (b.1 - a.1) * (b.2 - a.2) - (b.2 - a.2) * (b.1 - a.1) = 0 := by rw [Int.mul_comm]; omega
 constructor
 ·simp [onP, crs]; omega
 ·simp [onP, crs, e1]; omega
theorem bne_false' {a b : Int} (h : (a != b) = false) : a = b := by simpa using h
theorem bne_true' {a b : Int} (h : (a != b) = true) : a ≠ b := by simpa using h
theorem ifs4 : ∀ x y z w : Bool, (x && y && z && w) = (if (if (if x = true then y else false) = true then z else false) = true then w else false) := by decide
theorem d_on {a b p : Pt2} (ha : Small 1000 a) (hb : Small 1000 b) (hp : Small 1000 p) : DK 42 [ptD a, ptD b, ptD p] fun d => d = .bool (onP a b p) := by
 refine dfn_ok cp42 rfl GHro fun Z0 lo => ?_
 have w1 := mulw (small_sub hb ha).1 (small_sub hp ha).2
 have w2 := mulw (small_sub hb ha).2 (small_sub hp ha).1
 by_cases h1 : p = a
 ·refine goD ?_; intros
  refine dw_pB (d_eqpt (p := p) (q := a) rfl rfl) (b := true) (by simpa using h1) ?_
  refine goD ?_; intros
  refine ds_if rfl (fun _ => ?_) (fun ht => by cases ht)
  refine goD ?_; intros
  exact ds_ret ⟨_, rfl, rfl, by rw [h1, crs_same.1]⟩
 ·by_cases h2 : p = b
  ·refine goD ?_; intros
   refine dw_pB (d_eqpt (p := p) (q := a) rfl rfl) (b := false) (by simpa using h1) ?_
   refine goD ?_; intros
   refine dw_pB (d_eqpt (p := p) (q := b) rfl rfl) (b := true) (by simpa using h2) ?_
   refine goD ?_; intros
   refine ds_if rfl (fun _ => ?_) (fun ht => by cases ht)
   refine goD ?_; intros
   exact ds_ret ⟨_, rfl, rfl, by rw [h2, crs_same.2]⟩
  ·refine goD ?_; intros
   refine dw_pB (d_eqpt (p := p) (q := a) rfl rfl) (b := false) (by simpa using h1) ?_
   refine goD ?_; intros
   refine dw_pB (d_eqpt (p := p) (q := b) rfl rfl) (b := false) (by simpa using h2) ?_
   refine goD ?_; intros
   refine ds_if rfl (fun ht => by cases ht) (fun _ => ?_)
   refine goD ?_; intros
   refine ds_if rfl (fun ht => ?_) (fun ht => ?_)
   ·have ht := bne_true' ht
    rw [w1, w2] at ht
    refine goD ?_; intros
    exact ds_ret ⟨_, rfl, rfl, by rw [onP, decide_eq_false (by unfold crs; omega), Bool.false_and]⟩
   ·have ht := bne_false' ht
    rw [w1, w2] at ht
    have e0 : crs a b p = 0 := by unfold crs; omega
    refine goD ?_; intros
    refine ds_ret ⟨_, rfl, rfl, ?_⟩
    rw [onP, decide_eq_true e0, Bool.true_and]
    refine congrArg DV.bool ?_
    simp only [Bool.false_eq_true, if_false, if_true]
    rw [show (if b.1 > a.1 then b.1 else a.1) = max a.1 b.1 by omega, show (if b.2 > a.2 then b.2 else a.2) = max a.2 b.2 by omega, show (if b.2 < a.2 then b.2 else a.2) = min a.2 b.2 by omega]
    exact (ifs4 _ _ _ _).symm
theorem d_pas {a b p : Pt2} (ha : Small 1000 a) (hb : Small 1000 b) (hp : Small 1000 p) : DK 43 [ptD a, ptD b, ptD p] fun d => d = .bool (pasP a b p) := by
 refine dfn_ok cp43 rfl GHro fun Z0 lo => ?_
 have w1 := mulw (small_sub hp ha).2 (small_sub hb ha).1
 have w2 := mulw (small_sub hp ha).1 (small_sub hb ha).2
 refine goD ?_; intros
 refine ds_if rfl (fun ht => ?_) (fun ht => ?_)
 ·refine goD ?_; intros
  refine ds_ret ⟨_, rfl, rfl, ?_⟩
  rw [pasP, if_pos (by simpa using ht)]
 ·refine goD ?_; intros
  refine ds_if rfl (fun h2 => ?_) (fun h2 => ?_)
  ·refine goD ?_; intros
   refine ds_ret ⟨_, rfl, rfl, ?_⟩
   have h2 := of_decide_eq_true h2
   rw [pasP, if_neg (by simpa using ht), if_pos (by omega), <- w1, <- w2]
  ·refine goD ?_; intros
   refine ds_ret ⟨_, rfl, rfl, ?_⟩
   have h2 := of_decide_eq_false h2
   rw [pasP, if_neg (by simpa using ht), if_neg (by omega), <- w1, <- w2]
def at0 (L : List Pt2) (i : Nat) : Pt2 := (L[i]?).getD (0, 0)
def sOn (L : List Pt2) (p : Pt2) (i : Nat) : Bool := onP (at0 L i) (at0 L (nxt L i)) p
def sPas (L : List Pt2) (p : Pt2) (i : Nat) : Bool := pasP (at0 L i) (at0 L (nxt L i)) p
def odds (L : List Pt2) (p : Pt2) : Nat -> Bool
 | 0 => false
 | n + 1 => xor (odds L p n) (sPas L p n)
def inP (L : List Pt2) (p : Pt2) : Bool := (List.range L.length).any (sOn L p) || odds L p L.length
theorem at0_of {L : List Pt2} {i : Nat} {a : Pt2} (h : L[i]? = some a) : at0 L i = a := by rw [at0, h]; rfl
theorem inP_true {L : List Pt2} {p : Pt2} {i : Nat} (hi : i < L.length) (h : sOn L p i = true) : inP L p = true := by
 rw [inP, List.any_eq_true.2 ⟨i, List.mem_range.2 hi, h⟩, Bool.true_or]
theorem inP_end {L : List Pt2} {p : Pt2} (h : ∀ i, i < L.length -> sOn L p i = false) : inP L p = odds L p L.length := by
 have : (List.range L.length).any (sOn L p) = false := by
  rw [List.any_eq_false]
  intro i hi
  rw [h i (List.mem_range.1 hi)]
  decide
 rw [inP, this, Bool.false_or]
theorem nxt_rem {L : List Pt2} {i : Nat} (_ : i < L.length) : Int.tmod ((i : Int) + 1) (L.length : Int) = ((nxt L i : Nat) : Int) := by
 rw [Int.tmod_eq_emod_of_nonneg (by omega)]
 simp [nxt]
theorem d_inside {L : List Pt2} {p : Pt2} (hl : Smalls3 L) (hp : Small 1000 p) (hn : L.length < 100) : DK 28 [ptsD L, ptD p] fun d => d = .bool (inP L p) := by
 refine dfn_ok cp28 rfl GHro fun Z0 lo => ?_
 refine goD ?_; intros
 refine ds_loop (fun m E S nk => ∃ i : Nat, i + m = L.length /\ (∀ j, j < i -> sOn L p j = false) /\ E = [(0, ptsD L), (3, .one (.ptr 0 0)), (5, .bool (odds L p i)), (9, ptsD L), (10, .int L.length), (11, .int i)] /\ S = [(0, .cells [.f (.c (.int .i64 p.1)), .f (.c (.int .i64 p.2))])] /\ nk = 1)
  ⟨L.length, _, _, _, [], ?wk, 0, oM, fun j hj => oM, rfl, rfl, rfl⟩ ?_
 case wk => exact wkA
 rintro m E S nk ⟨i, hi, hno, rfl, rfl, rfl⟩
 refine goD ?_; intros
 refine ds_if rfl (fun ht => ?_) (fun ht => ?_)
 ·have ht : i < L.length := by have := of_decide_eq_true ht; omega
  have hnx : nxt L i < L.length := Nat.mod_lt _ oM
  obtain ⟨a, ha⟩ : ∃ q, L[i]? = some q := ⟨_, List.getElem?_eq_getElem ht⟩
  obtain ⟨b, hb⟩ : ∃ q, L[nxt L i]? = some q := ⟨_, List.getElem?_eq_getElem hnx⟩
  have e1 := ptF_at ha
  have e2 := ptF_at hb
  have hsa := hl a (List.mem_of_getElem? ha)
  have hsb := hl b (List.mem_of_getElem? hb)
  have hw : IntKind.i64.wrap ((i : Int) + 1) = (i : Int) + 1 := dwrap oM oM
  refine goD ?_; intros
  rw [hw]
  refine dw_rem rfl rfl oM ?_
  rw [nxt_rem ht]
  refine goD ?_; intros
  refine dw_cf rfl rfl (d_on hsa hsb hp) ?_
  rintro _ rfl
  refine goD ?_; intros
  refine ds_if rfl (fun ho => ?_) (fun ho => ?_)
  ·refine goD ?_; intros
   refine ds_ret ⟨_, rfl, rfl, ?_⟩
   rw [inP_true ht (by rw [sOn, at0_of ha, at0_of hb]; exact ho)]
  ·have ho : sOn L p i = false := by rw [sOn, at0_of ha, at0_of hb]; exact ho
   refine goD ?_; intros
   refine dw_cf rfl rfl (d_pas hsa hsb hp) ?_
   rintro _ rfl
   refine goD ?_; intros
   refine ds_if rfl (fun hq => ?_) (fun hq => ?_)
   ·refine goD ?_; intros
    refine ⟨m - 1, oM, _, _, _, [], ?wk1, i + 1, oM, ?hno, rfl, rfl, rfl⟩
    case hno =>
     intro j hj
     by_cases hji : j = i
     ·rw [hji, ho]
     ·exact hno j oM
    case wk1 =>
     have : (!odds L p i) = odds L p (i + 1) := by rw [odds, sPas, at0_of ha, at0_of hb, hq]; cases odds L p i <;> rfl
     rw [this]
     exact wkA
   ·have : odds L p (i + 1) = odds L p i := by rw [odds, sPas, at0_of ha, at0_of hb, hq]; cases odds L p i <;> rfl
    refine goD ?_; intros
    refine ⟨m - 1, oM, _, _, _, [], ?wk2, i + 1, oM, ?hno2, rfl, rfl, rfl⟩
    case hno2 =>
     intro j hj
     by_cases hji : j = i
     ·rw [hji, ho]
     ·exact hno j oM
    case wk2 =>
     rw [this]
     exact wkA
 ·have ht : i = L.length := by have := of_decide_eq_false ht; omega
  subst ht
  refine goD ?_; intros
  refine ds_ret ⟨_, rfl, rfl, ?_⟩
  rw [inP_end hno]
def texP (k : Int) (p : Pt2) : Bool := decide (k = 3) || (decide (k = 2) && decide (p.2.tmod 2 = 0)) || (decide (k = 1) && decide ((p.1 + p.2).tmod 2 = 0))
def texN (n : Nat) : FuncId := 38 + n
theorem d_tex0 {p : Pt2} : DK 38 [ptD p] fun d => d = .bool (texP 0 p) := by
 refine dfn_ok cp38 rfl GHro fun Z0 lo => ?_
 refine goD ?_; intros
 exact ds_ret ⟨_, rfl, rfl, rfl⟩
theorem d_tex3 {p : Pt2} : DK 41 [ptD p] fun d => d = .bool (texP 3 p) := by
 refine dfn_ok cp41 rfl GHro fun Z0 lo => ?_
 refine goD ?_; intros
 exact ds_ret ⟨_, rfl, rfl, rfl⟩
theorem d_tex2 {p : Pt2} : DK 40 [ptD p] fun d => d = .bool (texP 2 p) := by
 refine dfn_ok cp40 rfl GHro fun Z0 lo => ?_
 refine goD ?_; intros
 refine ds_ret ⟨_, rfl, rfl, ?_⟩
 exact congrArg DV.bool (by rw [texP]; by_cases h : p.2.tmod 2 = 0 <;> simp [h])
theorem d_tex1 {p : Pt2} (hp : Small 1000 p) : DK 39 [ptD p] fun d => d = .bool (texP 1 p) := by
 refine dfn_ok cp39 rfl GHro fun Z0 lo => ?_
 have hw : IntKind.i64.wrap (p.1 + p.2) = p.1 + p.2 := by unfold Small at hp; exact dwrap oM oM
 refine goD ?_; intros
 refine ds_ret ⟨_, rfl, rfl, ?_⟩
 exact congrArg DV.bool (by rw [hw]; rfl)
theorem d_texture {k : Nat} (hk : k < 4) : DK 27 [.int k] fun d => d = fnK (texN k) := by
 refine dfn_ok cp27 rfl GHro fun Z0 lo => ?_
 match k, hk with
 | 0, _ =>
  refine goD ?_; intros
  exact ds_ret ⟨_, rfl, rfl, rfl⟩
 | 1, _ =>
  refine goD ?_; intros
  exact ds_ret ⟨_, rfl, rfl, rfl⟩
 | 2, _ =>
  refine goD ?_; intros
  exact ds_ret ⟨_, rfl, rfl, rfl⟩
 | 3, _ =>
  refine goD ?_; intros
  exact ds_ret ⟨_, rfl, rfl, rfl⟩
 | k + 4, h => omega
structure Ft where
 kind : Int
 tex : Int
 pts : List Pt2
def ftF (f : Ft) : List FD := [.c (.int .i64 f.kind), .c (.int .i64 f.tex), .sl 2 f.pts.length (f.pts.flatMap ptF)]
def ftD (f : Ft) : DV := .agg [.f (.c (.int .i64 f.kind)), .f (.c (.int .i64 f.tex)), .f (.sl 2 f.pts.length (f.pts.flatMap ptF))]
def in60 (p : Pt2) : Bool := decide (0 <= p.1) && decide (p.1 < 60) && (decide (0 <= p.2) && decide (p.2 < 60))
def kindOk (f : Ft) : Bool := if f.kind = 1 then f.pts.length == 1 && f.tex == 0 else if f.kind = 2 then decide (2 <= f.pts.length) && f.tex == 0 else if f.kind = 3 then decide (3 <= f.pts.length) && decide (0 <= f.tex) && decide (f.tex <= 3) else false
def validF (f : Ft) : Bool := decide (1 <= f.pts.length) && decide (f.pts.length <= 12) && f.pts.all in60 && kindOk f
theorem itOr (a b : Bool) : (if a = true then true else b) = (a || b) := by cases a <;> rfl
theorem natcast_beq (n : Nat) : ((n : Int) == 1) = (n == 1) := by
 by_cases h : n = 1
 ·subst h; rfl
 ·have : ¬ (n : Int) = 1 := by omega
  rw [beq_eq_false_iff_ne.2 h, beq_eq_false_iff_ne.2 this]
theorem itAnd (a b : Bool) : (if a = true then b else false) = (a && b) := by cases a <;> rfl
theorem in60_iff {p : Pt2} : in60 p = true ↔ (0 <= p.1 /\ p.1 < 60) /\ 0 <= p.2 /\ p.2 < 60 := by simp [in60]
theorem validF_of {f : Ft} (h1 : 1 <= f.pts.length) (h2 : f.pts.length <= 12) (h3 : ∀ (j : Nat) q, j < f.pts.length -> f.pts[j]? = some q -> in60 q = true) : validF f = kindOk f := by
 rw [validF, decide_eq_true h1, decide_eq_true h2, List.all_eq_true.2]
 ·simp
 ·intro x hx
  obtain ⟨j, hj⟩ := List.getElem?_of_mem hx
  exact h3 j x (List.getElem?_eq_some_iff.1 hj).1 hj
theorem validF_bad {f : Ft} {q : Pt2} {i : Nat} (hq : f.pts[i]? = some q) (h : ¬ in60 q = true) : validF f = false := by
 have : f.pts.all in60 = false := by
  rw [List.all_eq_false]
  exact ⟨q, List.mem_of_getElem? hq, h⟩
 rw [validF, this]
 simp
theorem d_valid {f : Ft} (hn : f.pts.length < 1000) : DK 21 [ftD f] fun d => d = .bool (validF f) := by
 refine dfn_ok cp21 rfl GHro fun Z0 lo => ?_
 refine goD ?_; intros
 refine ds_if rfl (fun ht => ?_) (fun ht => ?_)
 ·refine goD ?_; intros
  refine ds_ret ⟨_, rfl, rfl, ?_⟩
  rw [itOr] at ht; simp only [Bool.or_eq_true, decide_eq_true_eq] at ht
  refine congrArg DV.bool ?_
  rw [validF]
  rcases ht with h|h
  ·rw [decide_eq_false (show ¬ 1 <= f.pts.length by omega)]; rfl
  ·rw [decide_eq_false (show ¬ f.pts.length <= 12 by omega), Bool.and_false]; rfl
 ·rw [itOr] at ht; simp only [Bool.or_eq_false_iff, decide_eq_false_iff_not] at ht
  refine goD ?_; intros
  refine ds_loop (fun m E S nk => ∃ i : Nat, i + m = f.pts.length /\ (∀ (j : Nat) q, j < i -> f.pts[j]? = some q -> in60 q = true) /\ E = [(1, .one (.ptr 0 0)), (3, .int f.pts.length), (16, ptsD f.pts), (17, .int f.pts.length), (18, .int i)] /\ S = [(0, .cells [.f (.c (.int .i64 f.kind)), .f (.c (.int .i64 f.tex)), .f (.sl 2 f.pts.length (f.pts.flatMap ptF))])] /\ nk = 1)
   ⟨f.pts.length, _, _, _, [], ?wk, 0, oM, fun j q hj => oM, rfl, rfl, rfl⟩ ?_
  case wk => exact wkA
  rintro m E S nk ⟨i, hi, hok, rfl, rfl, rfl⟩
  refine goD ?_; intros
  refine ds_if rfl (fun ht2 => ?_) (fun ht2 => ?_)
  ·have ht2 : i < f.pts.length := by have := of_decide_eq_true ht2; omega
   obtain ⟨q, hq⟩ : ∃ q, f.pts[i]? = some q := ⟨_, List.getElem?_eq_getElem ht2⟩
   have e1 := ptF_at hq
   refine goD ?_; intros
   refine ds_if rfl (fun hb => ?_) (fun hb => ?_)
   ·rw [itOr, itOr, itOr] at hb; simp only [Bool.or_eq_true, decide_eq_true_eq] at hb
    have hb : ¬ in60 q = true := by rw [in60_iff]; omega
    refine goD ?_; intros
    exact ds_ret ⟨_, rfl, rfl, by rw [validF_bad hq hb]⟩
   ·rw [itOr, itOr, itOr] at hb; simp only [Bool.or_eq_false_iff, decide_eq_false_iff_not] at hb
    have hb : in60 q = true := by rw [in60_iff]; omega
    refine goD ?_; intros
    refine ⟨m - 1, oM, _, _, _, [], ?wk1, i + 1, oM, ?hno, rfl, rfl, rfl⟩
    case hno =>
     intro j q' hj hq'
     by_cases hji : j = i
     ·subst hji; rw [hq] at hq'; rw [<- Option.some.inj hq']; exact hb
     ·exact hok j q' oM hq'
    case wk1 => exact wkA
  ·have ht2 : i = f.pts.length := by have := of_decide_eq_false ht2; omega
   subst ht2
   have hv := validF_of oM oM hok
   rw [hv]
   refine goD ?_; intros
   refine ds_if rfl (fun h1 => ?_) (fun h1 => ?_)
   ·have h1 : f.kind = 1 := by simpa using h1
    refine goD ?_; intros
    refine ds_ret ⟨_, rfl, rfl, congrArg DV.bool ?_⟩
    rw [itAnd, kindOk, if_pos h1]
    congr 1
    exact natcast_beq _
   ·have h1 : ¬ f.kind = 1 := by simpa using h1
    refine goD ?_; intros
    refine ds_if rfl (fun h2 => ?_) (fun h2 => ?_)
    ·have h2 : f.kind = 2 := by simpa using h2
     refine goD ?_; intros
     refine ds_ret ⟨_, rfl, rfl, congrArg DV.bool ?_⟩
     rw [itAnd, kindOk, if_neg h1, if_pos h2]
     congr 1
     exact decide_eq_decide.2 oM
    ·have h2 : ¬ f.kind = 2 := by simpa using h2
     refine goD ?_; intros
     refine ds_if rfl (fun h3 => ?_) (fun h3 => ?_)
     ·have h3 : f.kind = 3 := by simpa using h3
      refine goD ?_; intros
      refine ds_ret ⟨_, rfl, rfl, congrArg DV.bool ?_⟩
      rw [itAnd, itAnd, kindOk, if_neg h1, if_neg h2, if_pos h3]
      congr 2
      exact decide_eq_decide.2 oM
     ·have h3 : ¬ f.kind = 3 := by simpa using h3
      refine goD ?_; intros
      refine ds_ret ⟨_, rfl, rfl, congrArg DV.bool ?_⟩
      rw [kindOk, if_neg h1, if_neg h2, if_neg h3]
def InBox (lo hi p : Pt2) : Prop := (lo.1 <= p.1 /\ p.1 <= hi.1) /\ lo.2 <= p.2 /\ p.2 <= hi.2
theorem onP_box {a b p lo hi : Pt2} (h : onP a b p = true) (ha : InBox lo hi a) (hb : InBox lo hi b) : InBox lo hi p := by
 simp only [onP, Bool.and_eq_true, decide_eq_true_eq] at h
 unfold InBox at *
 omega
theorem cross_id' (u v h t : Int) : u * (h + t) - t * (u - v) = u * h + t * v := by
 rw [Int.mul_add, Int.mul_sub, Int.mul_comm t u]
 omega
theorem cross_id (a b p : Pt2) : (p.1 - a.1) * (b.2 - a.2) - (p.2 - a.2) * (b.1 - a.1) = (p.1 - a.1) * (b.2 - p.2) + (p.2 - a.2) * (p.1 - b.1) := by
 rw [<- cross_id', show b.2 - p.2 + (p.2 - a.2) = b.2 - a.2 by omega, show p.1 - a.1 - (p.1 - b.1) = b.1 - a.1 by omega]
theorem pas_left {a b p : Pt2} (ha : p.1 < a.1) (hb : p.1 < b.1) : pasP a b p = xor (decide (a.2 <= p.2)) (decide (b.2 <= p.2)) := by
 have e := cross_id a b p
 unfold pasP
 by_cases h1 : a.2 <= p.2
 ·by_cases h2 : b.2 <= p.2
  ·simp [h1, h2]
  ·have m1 : (p.1 - a.1) * (b.2 - p.2) < 0 := Int.mul_neg_of_neg_of_pos oM oM
   have m2 : (p.2 - a.2) * (p.1 - b.1) <= 0 := Int.mul_nonpos_of_nonneg_of_nonpos oM oM
   rw [decide_eq_true h1, decide_eq_false h2, if_neg (by decide), if_pos (by omega), decide_eq_true (by omega)]
   rfl
 ·by_cases h2 : b.2 <= p.2
  ·have m1 : 0 <= (p.1 - a.1) * (b.2 - p.2) := Int.mul_nonneg_of_nonpos_of_nonpos oM oM
   have m2 : 0 < (p.2 - a.2) * (p.1 - b.1) := Int.mul_pos_of_neg_of_neg oM oM
   rw [decide_eq_false h1, decide_eq_true h2, if_neg (by decide), if_neg (by omega), decide_eq_true (by omega)]
   rfl
  ·simp [h1, h2]
theorem pas_right {a b p : Pt2} (ha : a.1 < p.1) (hb : b.1 < p.1) : pasP a b p = false := by
 have e := cross_id a b p
 unfold pasP
 by_cases h1 : a.2 <= p.2
 ·by_cases h2 : b.2 <= p.2
  ·simp [h1, h2]
  ·have m1 : 0 < (p.1 - a.1) * (b.2 - p.2) := Int.mul_pos oM oM
   have m2 : 0 <= (p.2 - a.2) * (p.1 - b.1) := Int.mul_nonneg oM oM
   rw [decide_eq_true h1, decide_eq_false h2, if_neg (by decide), if_pos (by omega), decide_eq_false (by omega)]
 ·by_cases h2 : b.2 <= p.2
  ·have m1 : (p.1 - a.1) * (b.2 - p.2) <= 0 := Int.mul_nonpos_of_nonneg_of_nonpos oM oM
   have m2 : (p.2 - a.2) * (p.1 - b.1) < 0 := Int.mul_neg_of_neg_of_pos oM oM
   rw [decide_eq_false h1, decide_eq_true h2, if_neg (by decide), if_neg (by omega), decide_eq_false (by omega)]
  ·simp [h1, h2]
theorem pas_flat {a b p : Pt2} (h : decide (a.2 <= p.2) = decide (b.2 <= p.2)) : pasP a b p = false := by rw [pasP, if_pos h]
theorem odds_none {L : List Pt2} {p : Pt2} : ∀ {n : Nat}, (∀ i, i < n -> sPas L p i = false) -> odds L p n = false
 | 0, _ => rfl
 | n + 1, h => by rw [odds, odds_none (n := n) (fun i hi => h i (by omega)), h n (by omega)]; rfl
theorem odds_left {L : List Pt2} {p : Pt2} (h : ∀ i, i < L.length -> p.1 < (at0 L i).1) : ∀ {n : Nat}, n < L.length -> odds L p n = xor (decide ((at0 L 0).2 <= p.2)) (decide ((at0 L n).2 <= p.2))
 | 0, _ => by rw [odds]; simp
 | n + 1, hn => by
  have e : nxt L n = n + 1 := by rw [nxt, Nat.mod_eq_of_lt (by omega)]
  rw [odds, odds_left h (n := n) (by omega), sPas, e, pas_left (h n (by omega)) (h (n + 1) (by omega))]
  cases decide ((at0 L 0).2 <= p.2) <;> cases decide ((at0 L n).2 <= p.2) <;> cases decide ((at0 L (n + 1)).2 <= p.2) <;> rfl
theorem at0_mem {L : List Pt2} {i : Nat} (hi : i < L.length) : at0 L i ∈ L := by
 rw [at0, List.getElem?_eq_getElem hi]
 exact List.getElem_mem hi
theorem nxt_lt {L : List Pt2} {i : Nat} (hi : i < L.length) : nxt L i < L.length := Nat.mod_lt _ oM
theorem inP_box {L : List Pt2} {lo hi p : Pt2} (hL : ∀ q ∈ L, InBox lo hi q) (h : inP L p = true) : InBox lo hi p := by
 have hat : ∀ i, i < L.length -> InBox lo hi (at0 L i) := fun i hi => hL _ (at0_mem hi)
 rw [inP, Bool.or_eq_true] at h
 rcases h with h|h
 ·obtain ⟨i, hi, h⟩ := List.any_eq_true.1 h
  have hi := List.mem_range.1 hi
  exact onP_box h (hat i hi) (hat _ (nxt_lt hi))
 ·have h0 : 0 < L.length := by
   cases hl : L.length with
   | zero => rw [hl] at h; cases h
   | succ => omega
  have no : (∀ i, i < L.length -> sPas L p i = false) -> False := fun hno => by
   rw [odds_none hno] at h
   cases h
  have h1 : lo.2 <= p.2 := by
   false_or_by_contra
   refine no fun i hi => pas_flat ?_
   have g1 := hat i hi
   have g2 := hat _ (nxt_lt hi)
   unfold InBox at g1 g2
   rw [decide_eq_false (by omega), decide_eq_false (by omega)]
  have h2 : p.2 <= hi.2 := by
   false_or_by_contra
   refine no fun i hi => pas_flat ?_
   have g1 := hat i hi
   have g2 := hat _ (nxt_lt hi)
   unfold InBox at g1 g2
   rw [decide_eq_true (by omega), decide_eq_true (by omega)]
  have h3 : p.1 <= hi.1 := by
   false_or_by_contra
   refine no fun i hi => pas_right ?_ ?_
   ·have g1 := hat i hi
    unfold InBox at g1
    omega
   ·have g1 := hat _ (nxt_lt hi)
    unfold InBox at g1
    omega
  have h4 : lo.1 <= p.1 := by
   false_or_by_contra
   have hl : ∀ i, i < L.length -> p.1 < (at0 L i).1 := fun i hi => by
    have g1 := hat i hi
    unfold InBox at g1
    omega
   obtain ⟨n, hn⟩ : ∃ n, L.length = n + 1 := ⟨L.length - 1, oM⟩
   have e : nxt L n = 0 := by rw [nxt, <- hn, Nat.mod_self]
   rw [hn, odds, odds_left hl (n := n) (by omega), sPas, e, pas_left (hl n (by omega)) (hl 0 h0)] at h
   cases hx : decide ((at0 L 0).2 <= p.2) <;> cases hy : decide ((at0 L n).2 <= p.2) <;> rw [hx, hy] at h <;> cases h
  exact ⟨⟨h4, h3⟩, h1, h2⟩
def alongL (L : List Pt2) : List Pt2 := (List.range (L.length - 1)).flatMap fun i => lineP (at0 L i) (at0 L (nxt L i))
def aroundL (L : List Pt2) : List Pt2 := (List.range L.length).flatMap fun i => lineP (at0 L i) (at0 L (nxt L i))
def gridL : List Pt2 := (List.range 60).flatMap fun (y : Nat) => (List.range 60).map fun (x : Nat) => ((x : Int), (y : Int))
theorem gridL_mem {p : Pt2} : p ∈ gridL ↔ in60 p = true := by
 obtain ⟨x, y⟩ := p
 rw [in60_iff]
 simp only [gridL, List.mem_flatMap, List.mem_map, List.mem_range, Prod.mk.injEq]
 constructor
 ·rintro ⟨b, hb, a, ha, rfl, rfl⟩
  omega
 ·rintro ⟨⟨h1, h2⟩, h3, h4⟩
  exact ⟨y.toNat, oM, x.toNat, oM, oM, oM⟩
def fillL (f : Ft) : List Pt2 := gridL.filter fun p => texP f.tex p && inP f.pts p
def pointsF (f : Ft) : List Pt2 := if f.kind = 1 then f.pts else if f.kind = 2 then sortedP (alongL f.pts) else sortedP (aroundL f.pts ++ fillL f)
theorem aroundL_mem {L : List Pt2} {p : Pt2} : p ∈ aroundL L ↔ ∃ (i : Nat) (a b : Pt2), L[i]? = some a /\ L[nxt L i]? = some b /\ p ∈ lineP a b := by
 simp only [aroundL, List.mem_flatMap, List.mem_range]
 constructor
 ·rintro ⟨i, hi, hp⟩
  exact ⟨i, _, _, List.getElem?_eq_getElem hi, List.getElem?_eq_getElem (nxt_lt hi), by simpa [at0, List.getElem?_eq_getElem hi, List.getElem?_eq_getElem (nxt_lt hi)] using hp⟩
 ·rintro ⟨i, a, b, ha, hb, hp⟩
  exact ⟨i, (List.getElem?_eq_some_iff.1 ha).1, by rw [at0_of ha, at0_of hb]; exact hp⟩
theorem alongL_mem {L : List Pt2} {p : Pt2} : p ∈ alongL L ↔ ∃ (i : Nat) (a b : Pt2), i < L.length - 1 /\ L[i]? = some a /\ L[i + 1]? = some b /\ p ∈ lineP a b := by
 simp only [alongL, List.mem_flatMap, List.mem_range]
 constructor
 ·rintro ⟨i, hi, hp⟩
  have e : nxt L i = i + 1 := by rw [nxt, Nat.mod_eq_of_lt (by omega)]
  rw [e] at hp
  exact ⟨i, _, _, hi, List.getElem?_eq_getElem (by omega), List.getElem?_eq_getElem (by omega), by simpa [at0, List.getElem?_eq_getElem (show i < L.length by omega), List.getElem?_eq_getElem (show i + 1 < L.length by omega)] using hp⟩
 ·rintro ⟨i, a, b, hi, ha, hb, hp⟩
  have e : nxt L i = i + 1 := by rw [nxt, Nat.mod_eq_of_lt (by omega)]
  exact ⟨i, hi, by rw [e, at0_of ha, at0_of hb]; exact hp⟩
theorem sorted_eq {l m : List Pt2} (h : ∀ p, p ∈ l ↔ p ∈ m) : sortedP l = sortedP m := ByRows.ext (sortedP_rows l) (sortedP_rows m) fun p => by rw [sortedP_mem, sortedP_mem, h]
theorem dw_wk {p : Par} {base : Nat} {Q : DEnv -> Bx -> Nat -> Prop} {r : List SOper} {A : List Nat} {E E0 : DEnv} {S S0 : Bx} {nk n0 : Nat} (ρ : List (Nat × Nat)) (hw : Wk p ρ n0 E0 S0 E S) (h : DPW p base 0 Q r [] A E0 S0 n0) : DPW p base 0 Q r [] A E S nk := .mk fun Z β H F c hS hE hC hA => by
 obtain ⟨β0, h1, h2⟩ := wk_ok hS hE hw
 refine h.run Z β0 H F c h1 h2 (fun x hx => ?_) ⟨hA.1, fun j hj => oM⟩
 obtain ⟨y, hy, _⟩ := hC x hx
 cases hy
theorem valid_pts {f : Ft} (h : validF f = true) : (1 <= f.pts.length /\ f.pts.length <= 12) /\ (∀ p ∈ f.pts, in60 p = true) /\ kindOk f = true := by
 simp only [validF, Bool.and_eq_true, decide_eq_true_eq, List.all_eq_true] at h
 exact ⟨h.1.1, h.1.2, h.2⟩
theorem in60_small {p : Pt2} (h : in60 p = true) : Small 1000 p := by
 rw [in60_iff] at h
 unfold Small
 omega
theorem lineP_fst (a b : Pt2) : a ∈ lineP a b := by
 have h := lineP_at a b (k := 0) (by rw [far_abs]; omega)
 rw [lineAt_zero] at h
 exact List.mem_of_getElem? h
theorem d_texK {k : Nat} {p : Pt2} (hk : k < 4) (hp : Small 1000 p) : DK (texN k) [ptD p] fun d => d = .bool (texP k p) := by
 match k, hk with
 | 0, _ => exact d_tex0
 | 1, _ => exact d_tex1 hp
 | 2, _ => exact d_tex2
 | 3, _ => exact d_tex3
 | k + 4, h => omega
theorem isFn_tex {k : Nat} (hk : k < 4) : isFn Tryd.prog (texN k) = true := by
 match k, hk with
 | 0, _ => exact (show isFn Tryd.prog 38 = true by kernel_rfl)
 | 1, _ => exact (show isFn Tryd.prog 39 = true by kernel_rfl)
 | 2, _ => exact (show isFn Tryd.prog 40 = true by kernel_rfl)
 | 3, _ => exact (show isFn Tryd.prog 41 = true by kernel_rfl)
 | k + 4, h => omega
theorem d_textureI {t : Int} {k : Nat} (ht : t = k) (hk : k < 4) : DK 27 [.int t] fun d => d = fnK (texN k) := by rw [ht]; exact d_texture hk
def arS (f : Ft) (l : List Pt2) (lo hi : Pt2) : Bx := [(0, .cells [.f (.c (.int .i64 f.kind)), .f (.c (.int .i64 f.tex)), .f (.sl 2 f.pts.length (f.pts.flatMap ptF))]), (1, mapB l), (2, .cells [.f (.c (.int .i64 lo.1)), .f (.c (.int .i64 lo.2))]), (3, .cells [.f (.c (.int .i64 hi.1)), .f (.c (.int .i64 hi.2))])]
structure Fill (f : Ft) (l0 : List Pt2) (lo hi : Pt2) (x y : Int) (l : List Pt2) : Prop where
 nd : l.Nodup
 le : (l.length : Int) <= l0.length + 60 * (y - lo.2) + (x - lo.1)
 mem : ∀ p, p ∈ l ↔ p ∈ l0 \/ (InBox lo hi p /\ (p.2 < y \/ (p.2 = y /\ p.1 < x)) /\ (texP f.tex p && inP f.pts p) = true)
theorem Fill.start {f : Ft} {l0 : List Pt2} {lo hi : Pt2} (h : l0.Nodup) : Fill f l0 lo hi lo.1 lo.2 l0 := ⟨h, oM, fun p => ⟨.inl, fun h => h.elim id fun h => by
 obtain ⟨h1, h2, _⟩ := h
 unfold InBox at h1
 omega⟩⟩
theorem Fill.skip {f : Ft} {l0 l : List Pt2} {lo hi : Pt2} {x y : Int} (h : Fill f l0 lo hi x y l) (hb : (texP f.tex (x, y) && inP f.pts (x, y)) = false) : Fill f l0 lo hi (x + 1) y l := ⟨h.nd, by have := h.le; omega, fun p => by
 rw [h.mem]
 constructor
 ·rintro (h1|⟨h1, h2, h3⟩)
  ·exact .inl h1
  ·exact .inr ⟨h1, oM, h3⟩
 ·rintro (h1|⟨h1, h2, h3⟩)
  ·exact .inl h1
  ·refine .inr ⟨h1, ?_, h3⟩
   by_cases he : p = (x, y)
   ·rw [he, hb] at h3; cases h3
   ·have : ¬ (p.1 = x /\ p.2 = y) := fun h => he (Prod.ext h.1 h.2)
    omega⟩
theorem Fill.put {f : Ft} {l0 l : List Pt2} {lo hi : Pt2} {x y : Int} (h : Fill f l0 lo hi x y l) (hx : InBox lo hi (x, y)) (hb : (texP f.tex (x, y) && inP f.pts (x, y)) = true) : Fill f l0 lo hi (x + 1) y (putP l (x, y)) := ⟨putP_nodup h.nd, by have := h.le; have := (putP_le l (x, y)).2; omega, fun p => by
 rw [putP_mem, h.mem]
 constructor
 ·rintro ((h1|⟨h1, h2, h3⟩)|rfl)
  ·exact .inl h1
  ·exact .inr ⟨h1, oM, h3⟩
  ·exact .inr ⟨hx, .inr ⟨rfl, show x < x + 1 by omega⟩, hb⟩
 ·rintro (h1|⟨h1, h2, h3⟩)
  ·exact .inl (.inl h1)
  ·by_cases he : p = (x, y)
   ·exact .inr he
   ·refine .inl (.inr ⟨h1, ?_, h3⟩)
    have : ¬ (p.1 = x /\ p.2 = y) := fun h => he (Prod.ext h.1 h.2)
    omega⟩
theorem Fill.row {f : Ft} {l0 l : List Pt2} {lo hi : Pt2} {y : Int} (h : Fill f l0 lo hi (hi.1 + 1) y l) (hw : hi.1 + 1 - lo.1 <= 60) : Fill f l0 lo hi lo.1 (y + 1) l := ⟨h.nd, by have := h.le; omega, fun p => by
 rw [h.mem]
 constructor
 ·rintro (h1|⟨h1, h2, h3⟩)
  ·exact .inl h1
  ·exact .inr ⟨h1, oM, h3⟩
 ·rintro (h1|⟨h1, h2, h3⟩)
  ·exact .inl h1
  ·refine .inr ⟨h1, ?_, h3⟩
   unfold InBox at h1
   omega⟩
set_option maxHeartbeats 4000000 in
theorem d_points1 {f : Ft} (hv : validF f = true) (h1 : f.kind = 1) : DK 22 [ftD f] fun d => d = ptsD (pointsF f) := by
 obtain ⟨⟨hn1, hn2⟩, hin, hk⟩ := valid_pts hv
 have hsm : Smalls3 f.pts := fun p hp => in60_small (hin p hp)
 obtain ⟨a, ha⟩ : ∃ q, f.pts[0]? = some q := ⟨_, List.getElem?_eq_getElem oM⟩
 have e0 := ptF_at ha
 refine dfn_ok cp22 rfl GHro fun Z0 lo => ?_
 refine goD ?_; intros
 refine dw_cf rfl rfl (d_valid oM) ?_
 rintro _ rfl
 rw [hv]
 refine goD ?_; intros
 refine ds_if rfl (fun ht => by cases ht) (fun _ => ?_)
 have b1 : (f.kind == 1) = true := by simpa using h1
 refine goB ?_; intros
 refine ds_if rfl (fun _ => ?_) (fun ht => by cases ht)
 refine goB ?_; intros
 refine ds_keep (E0 := [(2, .one (.own 1 0 1 2))]) (S0 := [(1, .data (ptF a))]) (SubA.cons rfl (SubA.nil _)) (SubA.cons rfl (SubA.nil _)) ?_
 refine ds_frz 1 rfl okZ okZ ?_
 refine ds_ret ⟨_, rfl, rfl, ?_⟩
 rw [pointsF, if_pos h1]
 have hl : f.pts.length = 1 := by
  rw [kindOk, if_pos h1] at hk
  simp at hk
  exact hk.1
 obtain ⟨x, hx⟩ := List.length_eq_one_iff.1 hl
 rw [hx] at ha ⊢
 obtain rfl := Option.some.inj ha
 rfl
set_option maxHeartbeats 4000000 in
theorem d_points2 {f : Ft} (hv : validF f = true) (h1 : ¬ f.kind = 1) (h2 : f.kind = 2) : DK 22 [ftD f] fun d => d = ptsD (pointsF f) := by
 obtain ⟨⟨hn1, hn2⟩, hin, hk⟩ := valid_pts hv
 have hsm : Smalls3 f.pts := fun p hp => in60_small (hin p hp)
 obtain ⟨a, ha⟩ : ∃ q, f.pts[0]? = some q := ⟨_, List.getElem?_eq_getElem oM⟩
 have e0 := ptF_at ha
 refine dfn_ok cp22 rfl GHro fun Z0 lo => ?_
 refine goD ?_; intros
 refine dw_cf rfl rfl (d_valid oM) ?_
 rintro _ rfl
 rw [hv]
 refine goD ?_; intros
 refine ds_if rfl (fun ht => by cases ht) (fun _ => ?_)
 have b1 : (f.kind == 1) = false := by simpa using h1
 have b2 : (f.kind == 2) = true := by simpa using h2
 refine goB ?_; intros
 refine ds_if rfl (fun ht => by cases ht) (fun _ => ?_)
 refine goB ?_; intros
 refine ds_if rfl (fun _ => ?_) (fun ht => by cases ht)
 refine goB ?_; intros
 refine dw_cfr rfl rfl (do_along hsm oM) ?_
 rintro _ _ _ ⟨l, hA, rfl, rfl, rfl⟩
 refine dw_wk (E0 := [(28, .one (.om 0))]) (S0 := [(0, mapB l)]) (n0 := 1) [(0, 1)] ?hw ?_
 case hw => exact wkA
 have hl2 : 2 <= f.pts.length := by
  rw [kindOk, if_neg h1, if_pos h2] at hk
  simp at hk
  exact hk.1
 have hl0 : 0 < l.length := by
  obtain ⟨b, hb⟩ : ∃ q, f.pts[1]? = some q := ⟨_, List.getElem?_eq_getElem oM⟩
  exact List.length_pos_of_mem ((hA.mem _).2 ⟨0, a, b, oM, ha, hb, lineP_fst a b⟩)
 have := hA.le
 refine dw_cx rfl rfl rfl (x_sorted hA.nd hl0 oM _ _ _ _ _) ?_
 rintro _ S' _ ⟨rfl, hS, rfl⟩
 refine dw_keep (SubA.refl _) hS ?_
 refine goB ?_; intros
 refine ds_keep (SubA.cons (k := 2) rfl (SubA.nil _)) (SubA.cons (k := 6) rfl (SubA.nil _)) ?_
 have hfl := ptF_len (sortedP l)
 refine ds_frz 6 rfl okZ okZ ?_
 refine ds_ret ⟨_, rfl, rfl, ?_⟩
 have he : sortedP l = pointsF f := by
  rw [pointsF, if_neg h1, if_pos h2]
  exact sorted_eq fun p => by rw [hA.mem, alongL_mem]
 rw [he]
 rfl
set_option maxHeartbeats 4000000 in
theorem d_points3 {f : Ft} (hv : validF f = true) (h1 : ¬ f.kind = 1) (h2 : ¬ f.kind = 2) : DK 22 [ftD f] fun d => d = ptsD (pointsF f) := by
 obtain ⟨⟨hn1, hn2⟩, hin, hk⟩ := valid_pts hv
 have hsm : Smalls3 f.pts := fun p hp => in60_small (hin p hp)
 obtain ⟨a, ha⟩ : ∃ q, f.pts[0]? = some q := ⟨_, List.getElem?_eq_getElem oM⟩
 have e0 := ptF_at ha
 refine dfn_ok cp22 rfl GHro fun Z0 lo => ?_
 refine goD ?_; intros
 refine dw_cf rfl rfl (d_valid oM) ?_
 rintro _ rfl
 rw [hv]
 refine goD ?_; intros
 refine ds_if rfl (fun ht => by cases ht) (fun _ => ?_)
 have b1 : (f.kind == 1) = false := by simpa using h1
 have b2 : (f.kind == 2) = false := by simpa using h2
 refine goB ?_; intros
 refine ds_if rfl (fun ht => by cases ht) (fun _ => ?_)
 refine goB ?_; intros
 refine ds_if rfl (fun ht => by cases ht) (fun _ => ?_)
 refine goB ?_; intros
 refine dw_cfr rfl rfl (do_around hsm oM oM) ?_
 rintro _ _ _ ⟨l, hA, rfl, rfl, rfl⟩
 refine goB ?_; intros
 refine ds_loop (fun m E S nk => ∃ (i : Nat) (lo hi : Pt2), i + m = f.pts.length /\ in60 lo = true /\ in60 hi = true /\ (∀ (j : Nat) q, j < i -> f.pts[j]? = some q -> InBox lo hi q) /\ E = [(1, .one (.ptr 0 0)), (3, .one (.om 1)), (4, .one (.ptr 2 0)), (5, .one (.ptr 3 0)), (42, ptsD f.pts), (43, .int f.pts.length), (44, .int i)] /\ S = arS f l lo hi /\ nk = 4)
  ⟨f.pts.length, _, _, _, [], ?wk, 0, a, a, oM, hin a (List.mem_of_getElem? ha), hin a (List.mem_of_getElem? ha), fun j q hj => oM, rfl, rfl, rfl⟩ ?_
 case wk => exact wkA
 rintro m E S nk ⟨i, lo, hi, him, hlo, hhi, hbx, rfl, rfl, rfl⟩
 refine goD ?_; intros
 refine ds_if rfl (fun ht2 => ?_) (fun ht2 => ?_)
 ·have ht2 : i < f.pts.length := by have := of_decide_eq_true ht2; omega
  obtain ⟨q, hq⟩ : ∃ q, f.pts[i]? = some q := ⟨_, List.getElem?_eq_getElem ht2⟩
  have e1 := ptF_at hq
  have hq60 := hin q (List.mem_of_getElem? hq)
  refine goD ?_; intros
  refine ⟨m - 1, oM, _, _, _, [], ?wk1, i + 1, (min lo.1 q.1, min lo.2 q.2), (max hi.1 q.1, max hi.2 q.2), oM, ?g1, ?g2, ?g3, rfl, rfl, rfl⟩
  case g1 => rw [in60_iff] at *; simp only; omega
  case g2 => rw [in60_iff] at *; simp only; omega
  case g3 =>
   intro j q' hj hq'
   by_cases hji : j = i
   ·subst hji
    rw [hq] at hq'
    obtain rfl := Option.some.inj hq'
    unfold InBox
    simp only
    omega
   ·have := hbx j q' oM hq'
    unfold InBox at *
    simp only
    omega
  case wk1 => exact wkA
 ·have ht2 : i = f.pts.length := by have := of_decide_eq_false ht2; omega
  subst ht2
  obtain ⟨k, hk4, hft⟩ : ∃ k : Nat, k < 4 /\ f.tex = k := by
   rw [kindOk, if_neg h1, if_neg h2] at hk
   by_cases h3 : f.kind = 3
   ·rw [if_pos h3] at hk
    simp at hk
    exact ⟨f.tex.toNat, oM, oM⟩
   ·rw [if_neg h3] at hk
    cases hk
  have hab := hbx 0 a oM ha
  rw [in60_iff] at hlo hhi
  have hle0 := hA.le
  have hfs := Fill.start (f := f) (l0 := l) (lo := lo) (hi := hi) hA.nd
  refine goD ?_; intros
  refine dw_cf rfl rfl (d_textureI hft hk4) ?_
  rintro _ rfl
  refine goD ?_; intros
  refine ds_loop (fun m E S nk => ∃ (y : Int) (l' : List Pt2), lo.2 <= y /\ y <= hi.2 + 1 /\ m = (hi.2 + 1 - y).toNat /\ Fill f l lo hi lo.1 y l' /\ E = [(1, .one (.ptr 0 0)), (3, .one (.om 1)), (4, .one (.ptr 2 0)), (5, .one (.ptr 3 0)), (8, fnK (texN k)), (9, .int y)] /\ S = arS f l' lo hi /\ nk = 4)
   ⟨_, _, _, _, [], ?wk2, lo.2, l, oM, by unfold InBox at hab; omega, rfl, hfs, rfl, rfl, rfl⟩ ?_
  case wk2 => exact wkA
  rintro m E S nk ⟨y, l1, hy1, hy2, rfl, hF1, rfl, rfl, rfl⟩
  refine goD ?_; intros
  refine ds_if rfl (fun hy3 => ?_) (fun hy3 => ?_)
  ·have hy3 := of_decide_eq_true hy3
   refine goD ?_; intros
   refine ds_loop (fun m E S nk => ∃ (x : Int) (l' : List Pt2), lo.1 <= x /\ x <= hi.1 + 1 /\ m = (hi.1 + 1 - x).toNat /\ Fill f l lo hi x y l' /\ E = [(1, .one (.ptr 0 0)), (3, .one (.om 1)), (4, .one (.ptr 2 0)), (5, .one (.ptr 3 0)), (8, fnK (texN k)), (9, .int y), (10, .int x)] /\ S = arS f l' lo hi /\ nk = 4)
    ⟨_, _, _, _, [], ?wk3, lo.1, l1, oM, by unfold InBox at hab; omega, rfl, hF1, rfl, rfl, rfl⟩ ?_
   case wk3 => exact wkA
   rintro m E S nk ⟨x, l2, hx1, hx2, rfl, hF2, rfl, rfl, rfl⟩
   refine goD ?_; intros
   refine ds_if rfl (fun hx3 => ?_) (fun hx3 => ?_)
   ·have hx3 := of_decide_eq_true hx3
    have hxs : Small 1000 (x, y) := by unfold Small; simp only; omega
    have hib : InBox lo hi (x, y) := by unfold InBox; simp only; omega
    refine goD ?_; intros
    refine dw_cv0 rfl (isFn_tex hk4) rfl rfl (d_texK (p := (x, y)) hk4 hxs) ?_
    rintro _ rfl
    cases hb : texP f.tex (x, y) with
    | false =>
     rw [hft] at hb
     rw [hb]
     refine goD ?_; intros
     refine ds_if rfl (fun ht => by cases ht) (fun _ => ?_)
     refine goD ?_; intros
     refine ⟨(hi.1 + 1 - (x + 1)).toNat, by omega, _, _, _, [], ?wk4, x + 1, l2, by omega, by omega, rfl, hF2.skip (by rw [hft, hb]; rfl), rfl, rfl, rfl⟩
     case wk4 => exact wkA
    | true =>
     rw [hft] at hb
     rw [hb]
     refine goD ?_; intros
     refine dw_cf rfl rfl (d_inside (p := (x, y)) hsm hxs oM) ?_
     rintro _ rfl
     refine goD ?_; intros
     refine ds_if rfl (fun hi2 => ?_) (fun hi2 => ?_)
     ·have hi2 : inP f.pts (x, y) = true := by simpa using hi2
      refine goD ?_; intros
      refine dw_stupd rfl rfl rfl rfl (stUp_pt _ (x, y)) rfl ?_
      refine goD ?_; intros
      refine ⟨(hi.1 + 1 - (x + 1)).toNat, by omega, _, _, _, [], ?wk5, x + 1, putP l2 (x, y), by omega, by omega, rfl, hF2.put hib (by rw [hft, hb, hi2]; rfl), rfl, rfl, rfl⟩
      case wk5 => exact wkA
     ·have hi2 : inP f.pts (x, y) = false := by simpa using hi2
      refine goD ?_; intros
      refine ⟨(hi.1 + 1 - (x + 1)).toNat, by omega, _, _, _, [], ?wk6, x + 1, l2, by omega, by omega, rfl, hF2.skip (by rw [hft, hb, hi2]; rfl), rfl, rfl, rfl⟩
      case wk6 => exact wkA
   ·have hx3 := of_decide_eq_false hx3
    obtain rfl : x = hi.1 + 1 := by omega
    refine goD ?_; intros
    refine ⟨(hi.2 + 1 - (y + 1)).toNat, oM, _, _, _, [], ?wk7, y + 1, l2, oM, oM, rfl, hF2.row oM, rfl, rfl, rfl⟩
    case wk7 => exact wkA
  ·have hy3 := of_decide_eq_false hy3
   obtain rfl : y = hi.2 + 1 := by omega
   have hl1 := hF1.le
   have hl0 : 0 < l1.length := by
    obtain ⟨b, hb⟩ : ∃ q, f.pts[nxt f.pts 0]? = some q := ⟨_, List.getElem?_eq_getElem (nxt_lt oM)⟩
    exact List.length_pos_of_mem ((hF1.mem _).2 (.inl ((hA.mem _).2 ⟨0, a, b, ha, hb, lineP_fst a b⟩)))
   refine goD ?_; intros
   refine dw_wk (E0 := [(104, .one (.om 0))]) (S0 := [(0, mapB l1)]) (n0 := 1) [(0, 1)] ?hw ?_
   case hw => exact wkA
   refine dw_cx rfl rfl rfl (x_sorted hF1.nd hl0 oM _ _ _ _ _) ?_
   rintro _ S' _ ⟨rfl, hS, rfl⟩
   refine dw_keep (SubA.refl _) hS ?_
   refine goD ?_; intros
   refine ds_keep (SubA.cons (k := 2) rfl (SubA.nil _)) (SubA.cons (k := 6) rfl (SubA.nil _)) ?_
   have hfl := ptF_len (sortedP l1)
   refine ds_frz 6 rfl okZ okZ ?_
   refine ds_ret ⟨_, rfl, rfl, ?_⟩
   have he : sortedP l1 = pointsF f := by
    rw [pointsF, if_neg h1, if_neg h2]
    refine sorted_eq fun p => ?_
    rw [hF1.mem, hA.mem, List.mem_append, aroundL_mem, fillL, List.mem_filter, gridL_mem]
    constructor
    ·rintro (h|⟨h, _, h3⟩)
     ·exact .inl h
     ·refine .inr ⟨?_, h3⟩
      rw [in60_iff]
      unfold InBox at h
      omega
    ·rintro (h|⟨h, h3⟩)
     ·exact .inl h
     ·have hbp : InBox lo hi p := inP_box (L := f.pts) (fun q hq => by
       obtain ⟨j, hj⟩ := List.getElem?_of_mem hq
       exact hbx j q (List.getElem?_eq_some_iff.1 hj).1 hj) (by
       rw [Bool.and_eq_true] at h3
       exact h3.2)
      refine .inr ⟨hbp, ?_, h3⟩
      unfold InBox at hbp
      omega
   rw [he]
   rfl
theorem d_points {f : Ft} (hv : validF f = true) : DK 22 [ftD f] fun d => d = ptsD (pointsF f) := by
 by_cases h1 : f.kind = 1
 ·exact d_points1 hv h1
 ·by_cases h2 : f.kind = 2
  ·exact d_points2 hv h1 h2
  ·exact d_points3 hv h1 h2
def isRep : Nat -> List C -> Bool
 | 0, [] => true
 | n + 1, .bool false :: l => isRep n l
 | _, _ => false
theorem isRep_ok : ∀ {n : Nat} {l : List C}, isRep n l = true -> l = List.replicate n (.bool false)
 | 0, [], _ => rfl
 | 0, c :: l, h => by simp [isRep] at h
 | n + 1, [], h => by simp [isRep] at h
 | n + 1, c :: l, h => by
  cases c with
  | bool b =>
   cases b with
   | false =>
    have := isRep_ok (n := n) (l := l) h
    rw [this, List.replicate_succ]
   | true => simp [isRep] at h
  | _ => simp [isRep] at h
def bC (b : Bool) : DC := .f (.c (.bool b))
theorem allB_arr (n : Nat) : ∀ A : List Bool, allB (smC n) (A.map bC) = true
 | [] => rfl
 | b :: A => by rw [List.map_cons, allB, allB_arr n A]; rfl
theorem d_aaddr {E : DEnv} {x i : Opd} {k o len esz : Nat} {kd : IntKind} {j : Int} (hx : ro E x = some (.one (.ptr k o))) (hi : ro E i = some (.one (.f (.c (.int kd j))))) (h0 : 0 <= j) (h1 : j < len) : dPure E (.aaddr len esz x i) = some (.one (.ptr k (o + j.toNat * esz))) := by
 have e : idx j len = some j.toNat := by
  obtain ⟨n, rfl⟩ := Int.eq_ofNat_of_zero_le h0
  have : n < len := by omega
  show (match Nat.blt n len with|true => some n|false => none) = _
  rw [show Nat.blt n len = true by simpa using this]
  rfl
 simp only [dPure, hx, hi, e]
def linesN (L : List Pt2) (n : Nat) : List Pt2 := (List.range n).flatMap fun i => lineP (at0 L i) (at0 L (nxt L i))
def rowL (y n : Nat) : List Pt2 := (List.range n).map fun (x : Nat) => ((x : Int), (y : Int))
def gridN (y : Nat) : List Pt2 := (List.range y).flatMap fun (y : Nat) => rowL y 60
theorem gridN_succ (y : Nat) : gridN (y + 1) = gridN y ++ rowL y 60 := by simp [gridN, List.range_succ]
theorem rowL_len (y n : Nat) : (rowL y n).length = n := by simp [rowL]
theorem gridN_len : ∀ y : Nat, (gridN y).length = 60 * y
 | 0 => rfl
 | y + 1 => by rw [gridN_succ, List.length_append, gridN_len y, rowL_len]; omega
theorem gridN_all : gridN 60 = gridL := rfl
structure Pic where
 w : Int
 h : Int
 gap : Int
 fs : List Ft
def picC (p : Pic) : List DC := [.f (.c (.int .i64 p.w)), .f (.c (.int .i64 p.h)), .f (.c (.int .i64 p.gap)), .f (.sl 3 p.fs.length (p.fs.flatMap ftF))]
def picD (p : Pic) : DV := .agg (picC p)
theorem ftF_at {l : List Ft} {i : Nat} {x : Ft} (h : l[i]? = some x) : subL (l.flatMap ftF) (i * 3) 3 = some (ftF x) := subL_flat (e := 3) (fun _ => rfl) h
theorem ftF_len (l : List Ft) : (l.flatMap ftF).length = l.length * 3 := flat_length (f := ftF) (e := 3) (fun _ => rfl) l
def headOk (p : Pic) : Bool := (decide (4 <= p.w) && decide (p.w <= 60) && decide (p.w.tmod 2 = 0)) && (decide (3 <= p.h) && decide (p.h <= 60) && decide (p.h.tmod 3 = 0))
def gapOk (p : Pic) : Bool := (decide (2 <= p.gap) && decide (p.gap <= 6)) && (decide (1 <= p.fs.length) && decide (p.fs.length <= 8))
def ptIn (w h : Int) (q : Pt2) : Bool := decide (q.1 < w) && decide (q.2 < h)
def ftOk (p : Pic) (f : Ft) : Bool := validF f && f.pts.all (ptIn p.w p.h)
def validPic (p : Pic) : Bool := (headOk p && gapOk p) && p.fs.all (ftOk p)
def Fine (p : Pic) : Prop := p.fs.length < 1000 /\ ∀ f ∈ p.fs, f.pts.length < 1000
theorem bne0 {a : Int} : (a != 0) = !decide (a = 0) := by
 by_cases h : a = 0
 ·simp [h]
 ·rw [decide_eq_false h]; simpa using h
theorem headOk_bad {p : Pic} (h : (p.w < 4 \/ 60 < p.w \/ ¬ p.w.tmod 2 = 0 \/ p.h < 3 \/ 60 < p.h \/ ¬ p.h.tmod 3 = 0)) : headOk p = false := by
 rw [Bool.eq_false_iff]
 intro h2
 simp only [headOk, Bool.and_eq_true, decide_eq_true_eq] at h2
 omega
theorem all_bad {α : Type} {f : α -> Bool} {l : List α} {i : Nat} {x : α} (hx : l[i]? = some x) (h : f x = false) : l.all f = false := by
 rw [List.all_eq_false]
 exact ⟨x, List.mem_of_getElem? hx, by rw [h]; decide⟩
theorem all_good {α : Type} {f : α -> Bool} {l : List α} (h : ∀ (j : Nat) x, j < l.length -> l[j]? = some x -> f x = true) : l.all f = true := by
 rw [List.all_eq_true]
 intro x hx
 obtain ⟨j, hj⟩ := List.getElem?_of_mem hx
 exact h j x (List.getElem?_eq_some_iff.1 hj).1 hj
set_option maxHeartbeats 4000000 in
theorem d_apvalid {p : Pic} (hF : Fine p) : DK 15 [picD p] fun d => d = .bool (validPic p) := by
 refine dfn_ok cp15 rfl GHro fun Z0 lo => ?_
 refine goD ?_; intros
 refine ds_if rfl (fun ht => ?_) (fun ht => ?_)
 ·rw [itOr, itOr, itOr, itOr, itOr] at ht
  simp only [bne0, Bool.or_eq_true, decide_eq_true_eq, Bool.not_eq_true', decide_eq_false_iff_not] at ht
  refine goD ?_; intros
  refine ds_ret ⟨_, rfl, rfl, ?_⟩
  rw [validPic, headOk_bad (by omega)]
  rfl
 ·rw [itOr, itOr, itOr, itOr, itOr] at ht
  simp only [bne0, Bool.or_eq_false_iff, decide_eq_false_iff_not, Bool.not_eq_false', decide_eq_true_eq] at ht
  have hh : headOk p = true := by simp only [headOk, Bool.and_eq_true, decide_eq_true_eq]; omega
  refine goD ?_; intros
  refine ds_if rfl (fun ht2 => ?_) (fun ht2 => ?_)
  ·rw [itOr, itOr, itOr] at ht2
   simp only [Bool.or_eq_true, decide_eq_true_eq] at ht2
   have hg : gapOk p = false := by
    rw [Bool.eq_false_iff]
    intro h2
    simp only [gapOk, Bool.and_eq_true, decide_eq_true_eq] at h2
    omega
   refine goD ?_; intros
   refine ds_ret ⟨_, rfl, rfl, ?_⟩
   rw [validPic, hg, Bool.and_false]
   rfl
  ·rw [itOr, itOr, itOr] at ht2
   simp only [Bool.or_eq_false_iff, decide_eq_false_iff_not] at ht2
   have hg : gapOk p = true := by simp only [gapOk, Bool.and_eq_true, decide_eq_true_eq]; omega
   have hv : validPic p = p.fs.all (ftOk p) := by rw [validPic, hh, hg]; rfl
   rw [hv]
   refine goD ?_; intros
   refine ds_loop (fun m E S nk => ∃ i : Nat, i + m = p.fs.length /\ (∀ (j : Nat) f, j < i -> p.fs[j]? = some f -> ftOk p f = true) /\ E = [(1, .one (.ptr 0 0)), (58, .one (.f (.sl 3 p.fs.length (p.fs.flatMap ftF)))), (59, .int p.fs.length), (60, .int i)] /\ S = [(0, .cells (picC p))] /\ nk = 1)
    ⟨p.fs.length, _, _, _, [], ?wk, 0, oM, fun j q hj => oM, rfl, rfl, rfl⟩ ?_
   case wk => exact wkA
   rintro m E S nk ⟨i, hi, hok, rfl, rfl, rfl⟩
   refine goD ?_; intros
   refine ds_if rfl (fun hi2 => ?_) (fun hi2 => ?_)
   ·have hi2 : i < p.fs.length := by have := of_decide_eq_true hi2; omega
    obtain ⟨f, hf⟩ : ∃ f, p.fs[i]? = some f := ⟨_, List.getElem?_eq_getElem hi2⟩
    have e1 := ftF_at hf
    have hfl := hF.2 f (List.mem_of_getElem? hf)
    refine goD ?_; intros
    refine dw_cf rfl rfl (d_valid hfl) ?_
    rintro _ rfl
    refine goD ?_; intros
    refine ds_if rfl (fun hv1 => ?_) (fun hv1 => ?_)
    ·have hv1 : validF f = false := by simpa using hv1
     refine goD ?_; intros
     refine ds_ret ⟨_, rfl, rfl, ?_⟩
     rw [all_bad hf (by rw [ftOk, hv1]; rfl)]
    ·have hv1 : validF f = true := by simpa using hv1
     refine goD ?_; intros
     refine ds_loop (fun m E S nk => ∃ j : Nat, j + m = f.pts.length /\ (∀ (k : Nat) q, k < j -> f.pts[k]? = some q -> ptIn p.w p.h q = true) /\ E = [(1, .one (.ptr 0 0)), (58, .one (.f (.sl 3 p.fs.length (p.fs.flatMap ftF)))), (59, .int p.fs.length), (60, .int i), (68, ptsD f.pts), (69, .int f.pts.length), (70, .int j)] /\ S = [(0, .cells (picC p))] /\ nk = 1)
      ⟨f.pts.length, _, _, _, [], ?wk2, 0, oM, fun j q hj => oM, rfl, rfl, rfl⟩ ?_
     case wk2 => exact wkA
     rintro m2 E S nk ⟨j, hj, hok2, rfl, rfl, rfl⟩
     refine goD ?_; intros
     refine ds_if rfl (fun hj2 => ?_) (fun hj2 => ?_)
     ·have hj2 : j < f.pts.length := by have := of_decide_eq_true hj2; omega
      obtain ⟨q, hq⟩ : ∃ q, f.pts[j]? = some q := ⟨_, List.getElem?_eq_getElem hj2⟩
      have e2 := ptF_at hq
      refine goD ?_; intros
      refine ds_if rfl (fun hb => ?_) (fun hb => ?_)
      ·rw [itOr] at hb
       simp only [Bool.or_eq_true, decide_eq_true_eq] at hb
       have hb : ptIn p.w p.h q = false := by
        rw [Bool.eq_false_iff]
        intro h2
        simp only [ptIn, Bool.and_eq_true, decide_eq_true_eq] at h2
        omega
       refine goD ?_; intros
       refine ds_ret ⟨_, rfl, rfl, ?_⟩
       rw [all_bad hf (by rw [ftOk, all_bad hq hb, Bool.and_false])]
      ·rw [itOr] at hb
       simp only [Bool.or_eq_false_iff, decide_eq_false_iff_not] at hb
       have hb : ptIn p.w p.h q = true := by simp only [ptIn, Bool.and_eq_true, decide_eq_true_eq]; omega
       refine goD ?_; intros
       refine ⟨m2 - 1, oM, _, _, _, [], ?wk3, j + 1, oM, ?hno, rfl, rfl, rfl⟩
       case hno =>
        intro k q' hk hq'
        by_cases hkj : k = j
        ·subst hkj; rw [hq] at hq'; rw [<- Option.some.inj hq']; exact hb
        ·exact hok2 k q' oM hq'
       case wk3 => exact wkA
     ·have hj2 : j = f.pts.length := by have := of_decide_eq_false hj2; omega
      subst hj2
      refine goD ?_; intros
      refine ⟨m - 1, oM, _, _, _, [], ?wk4, i + 1, oM, ?hno2, rfl, rfl, rfl⟩
      case hno2 =>
       intro k f' hk hf'
       by_cases hki : k = i
       ·subst hki; rw [hf] at hf'; rw [<- Option.some.inj hf', ftOk, hv1, all_good hok2]; rfl
       ·exact hok k f' oM hf'
      case wk4 => exact wkA
   ·have hi2 : i = p.fs.length := by have := of_decide_eq_false hi2; omega
    subst hi2
    refine goD ?_; intros
    refine ds_ret ⟨_, rfl, rfl, ?_⟩
    rw [all_good hok]
theorem pointsF_box {f : Ft} {lo hi : Pt2} (h : ∀ q ∈ f.pts, InBox lo hi q) : ∀ p ∈ pointsF f, InBox lo hi p := by
 have hline : ∀ {a b p : Pt2}, InBox lo hi a -> InBox lo hi b -> p ∈ lineP a b -> InBox lo hi p := by
  intro a b p ha hb hp
  obtain ⟨k, hk⟩ := List.getElem?_of_mem hp
  have h1 := (List.getElem?_eq_some_iff.1 hk).1
  rw [lineP_len] at h1
  have hf := far_abs a b
  have h2 : (k : Int) <= far a b := by omega
  rw [lineP_at a b h2] at hk
  obtain rfl := Option.some.inj hk
  have h3 := lineAt_in a b h2
  unfold InBox at *
  omega
 have hlines : ∀ {n : Nat} {p : Pt2}, n <= f.pts.length -> p ∈ linesN f.pts n -> InBox lo hi p := by
  intro n p hn hp
  simp only [linesN, List.mem_flatMap, List.mem_range] at hp
  obtain ⟨i, hi, hp⟩ := hp
  exact hline (h _ (at0_mem oM)) (h _ (at0_mem (nxt_lt oM))) hp
 intro p hp
 unfold pointsF at hp
 split at hp
 ·exact h p hp
 ·split at hp
  ·rw [sortedP_mem] at hp
   exact hlines (n := f.pts.length - 1) oM hp
  ·rw [sortedP_mem, List.mem_append] at hp
   rcases hp with hp|hp
   ·exact hlines (Nat.le_refl _) hp
   ·have := (List.mem_filter.1 hp).2
    rw [Bool.and_eq_true] at this
    exact inP_box h this.2
theorem lineP_last (a b : Pt2) : b ∈ lineP a b := by
 have hf := far_abs a b
 have h := lineP_at a b (k := (far a b).toNat) oM
 rw [lineAt_full] at h
 exact List.mem_of_getElem? h
theorem corner_mem {f : Ft} (hv : validF f = true) {q : Pt2} (hq : q ∈ f.pts) : q ∈ pointsF f := by
 obtain ⟨⟨hn1, hn2⟩, hin, hk⟩ := valid_pts hv
 obtain ⟨i, hi⟩ := List.getElem?_of_mem hq
 have hlt := (List.getElem?_eq_some_iff.1 hi).1
 have hsome : ∀ j, j < f.pts.length -> f.pts[j]? = some (at0 f.pts j) := fun j hj => by rw [at0, List.getElem?_eq_getElem hj]; rfl
 unfold pointsF
 split
 ·exact hq
 ·split
  ·rename_i h1 h2
   have hl2 : 2 <= f.pts.length := by
    rw [kindOk, if_neg h1, if_pos h2] at hk
    simp at hk
    exact hk.1
   rw [sortedP_mem, alongL_mem]
   by_cases hl : i < f.pts.length - 1
   ·exact ⟨i, _, _, hl, hi, hsome _ oM, lineP_fst _ _⟩
   ·obtain rfl : i = (f.pts.length - 2) + 1 := by omega
    exact ⟨f.pts.length - 2, _, _, oM, hsome _ oM, hi, lineP_last _ _⟩
  ·rw [sortedP_mem, List.mem_append]
   exact .inl (aroundL_mem.2 ⟨i, _, _, hi, hsome _ (nxt_lt hlt), lineP_fst _ _⟩)
theorem pointsF_in60 {f : Ft} (hv : validF f = true) : ∀ p ∈ pointsF f, in60 p = true := by
 intro p hp
 obtain ⟨_, hin, _⟩ := valid_pts hv
 have := pointsF_box (lo := (0, 0)) (hi := (59, 59)) (fun q hq => by
  have g2 := hin q hq
  rw [in60_iff] at g2
  unfold InBox
  simp only
  omega) p hp
 unfold InBox at this
 rw [in60_iff]
 simp only at this
 omega
theorem pointsF_nodup {f : Ft} (hv : validF f = true) : (pointsF f).Nodup := by
 obtain ⟨⟨hn1, hn2⟩, hin, hk⟩ := valid_pts hv
 unfold pointsF
 split
 ·rename_i h1
  have hl : f.pts.length = 1 := by
   rw [kindOk, if_pos h1] at hk
   simp at hk
   exact hk.1
  obtain ⟨x, hx⟩ := List.length_eq_one_iff.1 hl
  rw [hx]
  simp
 ·split
  ·exact (sortedP_rows _).nodup
  ·exact (sortedP_rows _).nodup
theorem pointsF_len {f : Ft} (hv : validF f = true) : (pointsF f).length <= 3600 := by
 have := sub_len (pointsF_nodup hv) fun x hx => gridL_mem.2 (pointsF_in60 hv x hx)
 rw [<- gridN_all, gridN_len] at this
 omega
def ptsOf (p : Pic) : List (List Pt2) := p.fs.map pointsF
theorem validPic_fs {p : Pic} (h : validPic p = true) : (1 <= p.fs.length /\ p.fs.length <= 8) /\ (∀ f ∈ p.fs, ftOk p f = true) /\ headOk p = true /\ gapOk p = true := by
 simp only [validPic, Bool.and_eq_true, List.all_eq_true] at h
 obtain ⟨⟨h1, h2⟩, h3⟩ := h
 refine ⟨?_, h3, h1, h2⟩
 simp only [gapOk, Bool.and_eq_true, decide_eq_true_eq] at h2
 exact h2.2
theorem validPic_v {p : Pic} (h : validPic p = true) : ∀ f ∈ p.fs, validF f = true := fun f hf => by
 have := (validPic_fs h).2.1 f hf
 rw [ftOk, Bool.and_eq_true] at this
 exact this.1
theorem ptsOf_small {p : Pic} (h : validPic p = true) : ∀ l ∈ ptsOf p, (∀ q ∈ l, in60 q = true) /\ l.length <= 3600 := fun l hl => by
 obtain ⟨f, hf, rfl⟩ := List.mem_map.1 hl
 exact ⟨pointsF_in60 (validPic_v h f hf), pointsF_len (validPic_v h f hf)⟩
theorem smalls60 {l : List Pt2} (h : ∀ q ∈ l, in60 q = true) : Smalls l := fun q hq => by
 have := h q hq
 rw [in60_iff] at this
 unfold Small
 omega
open Classical in
noncomputable def cl1 (g : Int) (l : List Pt2) : Bool := decide (∃ cs, ClS g (sortedP l) cs /\ cs.length = 1)
abbrev Res := Int × Int × Int
def resD (r : Res) : DV := .agg [.f (.c (.int .i64 r.1)), .f (.c (.int .i64 r.2.1)), .f (.c (.int .i64 r.2.2))]
theorem lblP_small {i : Nat} {q : Pt2} (hq : Small 1000000 q) : Smalls (lblP i q) := fun x hx => by
 unfold lblP lbl at hx
 obtain ⟨k, hk, rfl⟩ := List.mem_map.1 hx
 have := List.mem_range.1 (List.mem_filter.1 hk).1
 unfold Small at *
 simp only [lbQ]
 omega
theorem lblP_len (i : Nat) (q : Pt2) : (lblP i q).length <= 12 := lbl_len _ _ _
def fitsH (p : Pic) (q : Pt2) : Bool := ((decide (0 <= q.1) && decide (0 <= q.2)) && (decide (q.1 <= 60) && decide (q.2 <= 60))) && (decide (2 * (q.1 + 2) <= p.w) && decide (3 * (q.2 + 1) <= p.h))
def farL (g : Int) (d l : List Pt2) : Bool := !decide (dist d l <= g)
def fitsP (p : Pic) (i : Nat) (q : Pt2) : Bool := fitsH p q && ((ptsOf p).all (farL p.gap (lblP i q)) && decide (dist (lblP i q) (((ptsOf p)[i]?).getD []) <= 3 * p.gap))
def clashP (g : Int) (i : Nat) (a : Pt2) (k : Nat) (b : Pt2) : Bool := decide (dist (lblP i a) (lblP k b) <= g)
def legal1 (p : Pic) (l : List Pt2) (i : Nat) : Bool := fitsP p i (at0 l i) && (List.range i).all fun k => !clashP p.gap i (at0 l i) k (at0 l k)
def legalF (p : Pic) (l : List Pt2) : Bool := decide (l.length <= p.fs.length) && (List.range l.length).all (legal1 p l)
theorem range_bad {f : Nat -> Bool} {n i : Nat} (hi : i < n) (h : f i = false) : (List.range n).all f = false := by
 rw [List.all_eq_false]
 exact ⟨i, List.mem_range.2 hi, by rw [h]; decide⟩
theorem range_good {f : Nat -> Bool} {n : Nat} (h : ∀ i, i < n -> f i = true) : (List.range n).all f = true := by
 rw [List.all_eq_true]
 exact fun i hi => h i (List.mem_range.1 hi)
def legalP (p : Pic) (l : List Pt2) : Bool := decide (l.length = p.fs.length) && legalF p l
def rowC (p : Pic) (i y n : Nat) : List Pt2 := ((List.range n).map fun x => (((x : Nat) : Int), ((y : Nat) : Int))).filter (fitsP p i)
def candN (p : Pic) (i w n : Nat) : List Pt2 := (List.range n).flatMap fun y => rowC p i y w
def candP (p : Pic) (i : Nat) : List Pt2 := candN p i ((p.w / 2).toNat - 1) (p.h / 3).toNat
theorem rowC_t {p : Pic} {i y n : Nat} (h : fitsP p i ((n : Int), (y : Int)) = true) : rowC p i y (n + 1) = rowC p i y n ++ [((n : Int), (y : Int))] := by
 simp [rowC, List.range_succ, h]
theorem rowC_f {p : Pic} {i y n : Nat} (h : fitsP p i ((n : Int), (y : Int)) = false) : rowC p i y (n + 1) = rowC p i y n := by
 simp [rowC, List.range_succ, h]
theorem candN_succ {p : Pic} {i w n : Nat} : candN p i w (n + 1) = candN p i w n ++ rowC p i n w := by
 simp [candN, List.range_succ]
theorem rowC_len (p : Pic) (i y n : Nat) : (rowC p i y n).length <= n := by
 unfold rowC
 exact Nat.le_trans (List.length_filter_le _ _) (by simp)
theorem candN_len (p : Pic) (i w : Nat) : ∀ n, (candN p i w n).length <= n * w
 | 0 => by simp [candN]
 | n + 1 => by
  have h1 := candN_len p i w n
  have h2 := rowC_len p i n w
  rw [candN_succ, List.length_append, Nat.add_mul]
  omega
end Go.Af

namespace Go.Af
open Go.Ab
def hd (c : List Pt2) : Pt2 := c.headD (0, 0)
end Go.Af

namespace Go.Af
open Go.Ab Go.Proofs
theorem dist_le {a b : List Pt2} (ha : a ≠ []) (hb : b ≠ []) {g : Int} : dist a b <= g ↔ ∃ x ∈ a, ∃ y ∈ b, far x y <= g := by
 obtain ⟨⟨x, hx, y, hy, h1⟩, h2⟩ := dist_spec ha hb
 constructor
 ·intro h; exact ⟨x, hx, y, hy, oM⟩
 ·rintro ⟨x, hx, y, hy, h⟩
  have := h2 x hx y hy
  omega
end Go.Af

namespace Go.Af
open Go.Ab Go.Proofs
set_option linter.unusedSimpArgs false
def mv (v q : Pt2) : Pt2 := (q.1 + v.1, q.2 + v.2)
theorem pointsF_ne {f : Ft} (hv : validF f = true) : pointsF f ≠ [] := fun e => by
 obtain ⟨⟨hn1, _⟩, _⟩ := valid_pts hv
 have h := corner_mem hv (at0_mem (L := f.pts) (i := 0) oM)
 rw [e] at h
 cases h
theorem ptsOf_ne {p : Pic} (hv : validPic p = true) : ∀ a ∈ ptsOf p, a ≠ [] := fun a ha => by
 obtain ⟨f, hf, rfl⟩ := List.mem_map.1 ha
 exact pointsF_ne (validPic_v hv f hf)
def TkP (A : List Bool) (P : Nat -> Nat -> Prop) : Prop := A.length = 3600 /\ ∀ y x, y < 60 -> x < 60 -> (A[y * 60 + x]? = some true ↔ P y x)
theorem TkP.congr {A : List Bool} {P Q : Nat -> Nat -> Prop} (h : TkP A P) (he : ∀ y x, y < 60 -> x < 60 -> (P y x ↔ Q y x)) : TkP A Q := ⟨h.1, fun y x hy hx => (h.2 y x hy hx).trans (he y x hy hx)⟩
theorem TkP.none : TkP (List.replicate 3600 false) fun _ _ => False := ⟨List.length_replicate, fun y x hy hx => by
 rw [List.getElem?_replicate, if_pos (by omega)]
 simp⟩
theorem TkP.set {A : List Bool} {P : Nat -> Nat -> Prop} (h : TkP A P) {y x : Nat} (hy : y < 60) (hx : x < 60) : TkP (A.set (y * 60 + x) true) fun j i => P j i \/ (j = y /\ i = x) := by
 refine ⟨by rw [List.length_set]; exact h.1, fun j i hj hi => ?_⟩
 rw [List.getElem?_set]
 by_cases e : y * 60 + x = j * 60 + i
 ·have : j = y /\ i = x := by omega
  rw [if_pos e, if_pos (by rw [h.1]; omega)]
  exact ⟨fun _ => .inr this, fun _ => rfl⟩
 ·rw [if_neg e, h.2 j i hj hi]
  constructor
  ·exact .inl
  ·rintro (h|⟨rfl, rfl⟩)
   ·exact h
   ·exact absurd rfl e
theorem TkP.at {A : List Bool} {P : Nat -> Nat -> Prop} (h : TkP A P) {y x : Nat} (hy : y < 60) (hx : x < 60) : ∃ b, A[y * 60 + x]? = some b /\ (b = true ↔ P y x) := by
 obtain ⟨b, hb⟩ : ∃ b, A[y * 60 + x]? = some b := ⟨_, List.getElem?_eq_getElem (by rw [h.1]; omega)⟩
 refine ⟨b, hb, ?_⟩
 rw [<- h.2 y x hy hx, hb]
 simp
def nearD (p : Pic) (q : Pt2) (j i : Nat) : Prop := (i : Int) < p.w /\ (j : Int) < p.h /\ far q ((i : Int), (j : Int)) <= p.gap
def nearL (p : Pic) (l : List Pt2) (j i : Nat) : Prop := ∃ q ∈ l, nearD p q j i
theorem nearL_snoc {p : Pic} {l : List Pt2} {q : Pt2} {j i : Nat} : nearL p (l ++ [q]) j i ↔ nearL p l j i \/ nearD p q j i := by
 unfold nearL
 constructor
 ·rintro ⟨r, hr, h⟩
  rcases List.mem_append.1 hr with hr|hr
  ·exact .inl ⟨r, hr, h⟩
  ·rw [List.mem_singleton] at hr; subst hr; exact .inr h
 ·rintro (⟨r, hr, h⟩|h)
  ·exact ⟨r, List.mem_append_left _ hr, h⟩
  ·exact ⟨q, by simp, h⟩
theorem near_iff {p : Pic} {q : Pt2} {j i : Nat} : nearD p q j i ↔ (i : Int) < p.w /\ (j : Int) < p.h /\ q.1 - p.gap <= (i : Int) /\ (i : Int) <= q.1 + p.gap /\ q.2 - p.gap <= (j : Int) /\ (j : Int) <= q.2 + p.gap := by
 unfold nearD far
 constructor
 ·rintro ⟨h1, h2, h3⟩
  simp only at h3
  refine ⟨h1, h2, ?_⟩
  omega
 ·rintro ⟨h1, h2, h3⟩
  refine ⟨h1, h2, ?_⟩
  simp only
  omega
def mkY (p : Pic) (l : List Pt2) (q : Pt2) (y : Int) (j i : Nat) : Prop := nearL p l j i \/ (nearD p q j i /\ (j : Int) < y)
def mkX (p : Pic) (l : List Pt2) (q : Pt2) (y x : Int) (j i : Nat) : Prop := nearL p l j i \/ (nearD p q j i /\ ((j : Int) < y \/ ((j : Int) = y /\ (i : Int) < x)))
theorem mkY_start {p : Pic} {l : List Pt2} {q : Pt2} {j i : Nat} : nearL p l j i ↔ mkY p l q (max 0 (q.2 - p.gap)) j i := by
 unfold mkY
 rw [near_iff]
 constructor
 ·exact .inl
 ·rintro (h|h)
  ·exact h
  ·omega
theorem mkY_end {p : Pic} {l : List Pt2} {q : Pt2} {y : Int} {j i : Nat} (h : ¬ y <= min (p.h - 1) (q.2 + p.gap)) : mkY p l q y j i ↔ nearL p (l ++ [q]) j i := by
 unfold mkY
 rw [nearL_snoc, near_iff]
 constructor
 ·rintro (h|h)
  ·exact .inl h
  ·exact .inr h.1
 ·rintro (h|h)
  ·exact .inl h
  ·exact .inr ⟨h, oM⟩
theorem mkX_start {p : Pic} {l : List Pt2} {q : Pt2} {y : Int} {j i : Nat} : mkY p l q y j i ↔ mkX p l q y (max 0 (q.1 - p.gap)) j i := by
 unfold mkY mkX
 rw [near_iff]
 constructor
 ·rintro (h|h)
  ·exact .inl h
  ·exact .inr ⟨h.1, .inl h.2⟩
 ·rintro (h|⟨h, h2⟩)
  ·exact .inl h
  ·exact .inr ⟨h, oM⟩
theorem mkX_end {p : Pic} {l : List Pt2} {q : Pt2} {y x : Int} {j i : Nat} (h : ¬ x <= min (p.w - 1) (q.1 + p.gap)) : mkX p l q y x j i ↔ mkY p l q (y + 1) j i := by
 unfold mkY mkX
 rw [near_iff]
 constructor
 ·rintro (h|⟨h, h2⟩)
  ·exact .inl h
  ·exact .inr ⟨h, oM⟩
 ·rintro (h|⟨h, h2⟩)
  ·exact .inl h
  ·exact .inr ⟨h, oM⟩
theorem mkX_step {p : Pic} {l : List Pt2} {q : Pt2} {y x : Nat} {j i : Nat} (h1 : max 0 (q.2 - p.gap) <= (y : Int)) (h2 : (y : Int) <= min (p.h - 1) (q.2 + p.gap)) (h3 : max 0 (q.1 - p.gap) <= (x : Int)) (h4 : (x : Int) <= min (p.w - 1) (q.1 + p.gap)) : (mkX p l q y x j i \/ (j = y /\ i = x)) ↔ mkX p l q y ((x : Int) + 1) j i := by
 unfold mkX
 rw [near_iff]
 constructor
 ·rintro ((h|⟨h, h2⟩)|⟨rfl, rfl⟩)
  ·exact .inl h
  ·exact .inr ⟨h, oM⟩
  ·exact .inr ⟨oM, oM⟩
 ·rintro (h|⟨h, h2⟩)
  ·exact .inl (.inl h)
  ·by_cases e : j = y /\ i = x
   ·exact .inr e
   ·exact .inl (.inr ⟨h, oM⟩)
def siteC (p : Pic) (d : DC) (A : List Bool) : List DC := picC p ++ d :: A.map bC
def bF (b : Bool) : FD := .c (.bool b)
def siteF (p : Pic) (n : Nat) (rows : List FD) (A : List Bool) : List FD := [.c (.int .i64 p.w), .c (.int .i64 p.h), .c (.int .i64 p.gap), .sl 3 p.fs.length (p.fs.flatMap ftF), .sl 1 n rows] ++ A.map bF
theorem siteF_C (p : Pic) (n : Nat) (rows : List FD) (A : List Bool) : siteC p (.f (.sl 1 n rows)) A = (siteF p n rows A).map .f := by
 simp [siteC, siteF, picC, bC, bF]
theorem siteC_set (p : Pic) (d : DC) (A : List Bool) (n : Nat) (b : Bool) : (siteC p d A).set (5 + n) (bC b) = siteC p d (A.set n b) := by
 simp only [siteC, picC, List.cons_append, List.nil_append]
 rw [show 5 + n = n + 1 + 1 + 1 + 1 + 1 by omega]
 simp only [List.set_cons_succ, List.map_set]
def siteV (p : Pic) (A : List Bool) : DV := .one (.fptr (siteF p (ptsOf p).length ((ptsOf p).map fun l => .sl 2 l.length (l.flatMap ptF)) A))
def SiteOk (p : Pic) (A : List Bool) : Prop := TkP A (nearL p (ptsOf p).flatten)
theorem lblP_in {p : Pic} {i : Nat} {q : Pt2} (h0 : 0 <= q.1 /\ 0 <= q.2) (h1 : 2 * (q.1 + 2) <= p.w) (h2 : 3 * (q.2 + 1) <= p.h) : ∀ r ∈ lblP i q, (0 <= r.1 /\ r.1 < p.w) /\ 0 <= r.2 /\ r.2 < p.h := fun r hr => by
 unfold lblP lbl at hr
 obtain ⟨k, hk, rfl⟩ := List.mem_map.1 hr
 have := List.mem_range.1 (List.mem_filter.1 hk).1
 simp only [lbQ]
 omega
theorem lblP_first (i : Nat) (q : Pt2) : lbQ q 1 ∈ lblP i q := by
 unfold lblP lbl
 exact List.mem_map.2 ⟨1, List.mem_filter.2 ⟨by simp, (show bitE 60 3 = true by kernel_rfl)⟩, rfl⟩
theorem lblP_ne (i : Nat) (q : Pt2) : lblP i q ≠ [] := fun e => by
 have := lblP_first i q
 rw [e] at this
 cases this
end Go.Af

namespace Go.Ab
def fpC (k : Nat) (l : List FD) : DC -> DC
 | .ptr j o => match Nat.beq j k with
  | true => .fptr (l.drop o)
  | false => .ptr j o
 | d => d
def fpV (k : Nat) (l : List FD) : DV -> DV
 | .one d => .one (fpC k l d)
 | d => d
section
variable {p : Par} {base rs n : Nat} {W : Wt} {A : List Nat} {E : DEnv} {S : Bx} {nk : Nat}
theorem all2_f {Z : Nat -> Prop} {β : Beta} {H : Hp} : ∀ {fs : List FD} {cs : List C}, All2 (RD Z H β) (fs.map .f) cs -> All2 (RF Z H) fs cs
 | [], [], _ => trivial
 | _ :: _, _ :: _, h => ⟨h.1, all2_f h.2⟩
 | [], _ :: _, h => h.elim
 | _ :: _, [], h => h.elim
theorem frzP_ok {Z : Nat -> Prop} {β : Beta} {H : Hp} {F : T V} (hS : SR p Z β H S nk) (hE : ER Z β H E F) {k : Nat} {fs : List FD} (hk : lk S k = some (.cells (fs.map .f))) :
  ∃ Z', SR p Z' β H (era k S) nk /\ ER Z' β H (mapS (fpV k fs) E) F /\ ZLe Z H Z' H /\ ∀ b, Z' b ↔ Z b \/ ∃ N, β (k, 0) = some (.blk b N) := by
 have hZ : ZLe Z H (fun b => Z b \/ ∃ N, β (k, 0) = some (.blk b N)) H := fun b hb => ⟨.inl hb, fun _ _ h => h⟩
 obtain ⟨s0, hs0, hb0⟩ := hS.box (k, 0) _ (lk2_of hk rfl)
 have hC : ∀ d c, RD Z H β d c -> RD (fun b => Z b \/ ∃ N, β (k, 0) = some (.blk b N)) H β (fpC k fs d) c := fun d c hr => by
  cases d with
  | ptr j o =>
   simp only [fpC]
   by_cases hj : j = k
   ·subst hj
    rw [beq_self]
    obtain ⟨b, N, h1, rfl⟩ := hr
    rw [hs0] at h1
    obtain rfl := Option.some.inj h1
    obtain ⟨_, _, _, cs, rest, hrow, _, hrel⟩ := hb0
    have hrel : All2 (RD Z H β) (fs.map .f) cs := hrel
    have hrow : Row H b (cs ++ rest) := hrow
    have ha := (all2_f hrel).mono fun _ _ => RF.mono hZ
    have hlen : fs.length = cs.length := ha.len
    refine ⟨b, o, cs.drop o, rfl, .inr ⟨N, hs0⟩, ?_, ha.drop o⟩
    by_cases ho : o <= cs.length
    ·have h1 := loads_drop (m := o) (loads_take hrow.2 (m := cs.length) (by rw [List.length_append]; omega)) (by omega)
     rw [List.length_drop, hlen]
     rw [Nat.zero_add, List.take_append_of_le_length (Nat.le_refl _), List.take_length] at h1
     exact h1
    ·rw [List.drop_of_length_le (by omega), List.drop_of_length_le (by omega)]
     rfl
   ·rw [beq_ne hj]; exact hr
  | own j o n e => exact RD.mono (d := .own j o n e) hZ (BLe.refl β) hr
  | trow j i o n => exact RD.mono (d := .trow j i o n) hZ (BLe.refl β) hr
  | f d => exact RD.mono (d := .f d) hZ (BLe.refl β) hr
  | g b o => exact hr
  | tptr j i o => exact hr
  | fptr q => exact RD.mono (d := .fptr q) hZ (BLe.refl β) hr
  | fn f caps => exact hr
  | any => trivial
  | om j => exact hr
  | yl j => exact hr
 refine ⟨fun b => Z b \/ ∃ N, β (k, 0) = some (.blk b N), ⟨hS.wf, hS.lo, fun b hb => hb.elim (hS.z b) fun ⟨N, h⟩ => hS.bd _ b N h, fun b hb => ?_, fun b hb => .inl (hS.zz b hb), fun b bk hb => ⟨.inl (hS.glob b bk hb).1, (hS.glob b bk hb).2⟩, hS.nk, hS.bd, fun j y hj => ?_, fun j j' y y' b N N' hj hj' h1 h2 => ?_, hS.blo, hS.anch, hS.ancn⟩, fun n d hd => ?_, hZ, fun b => Iff.rfl⟩
 ·rcases hb with hb|⟨N, hb⟩
  ·exact hS.zlo b hb
  ·exact .inr (hS.blo _ b N hb)
 ·rw [lk2_era] at hj
  split at hj
  ·cases hj
  ·rename_i hne
   obtain ⟨s, hs, hbx⟩ := hS.box j y hj
   obtain ⟨w, hw⟩ := lk2_lk hj
   refine ⟨s, hs, ?_⟩
   cases s with
   | nil => exact hbx
   | blk b N =>
    obtain ⟨h1, h2, h3, cs, rest, h4, h5, h6⟩ := hbx
    exact ⟨fun h => h.elim h1 fun ⟨M, hM⟩ => hne (by rw [hS.inj j (k, 0) w _ b N M hw hk hs hM]), h2, h3, cs, rest, h4, h5, Bk.rel_mono hZ (BLe.refl β) h6⟩
 ·have f : ∀ i z, lk (era k S) i = some z -> lk S i = some z := fun i z hz => by
   rw [lk_era] at hz
   split at hz
   ·cases hz
   ·exact hz
  exact hS.inj j j' y y' b N N' (f _ _ hj) (f _ _ hj') h1 h2
 ·rw [lk_mapS] at hd
  cases hl : lk E n with
  | none => rw [hl] at hd; cases hd
  | some y =>
   rw [hl] at hd
   obtain rfl := Option.some.inj hd
   obtain ⟨v, hv, hr⟩ := hE n y hl
   refine ⟨v, hv, ?_⟩
   cases y with
   | one d => obtain ⟨c, rfl, hr⟩ := hr; exact ⟨c, rfl, hC d c hr⟩
   | agg m => exact RDV.mono (d := .agg m) hZ (BLe.refl β) hr
   | tup m => exact RDV.mono (d := .tup m) hZ (BLe.refl β) hr
theorem ds_frzP {Q : Exit -> DEnv -> Bx -> Nat -> Prop} {s : SC} (k : Nat) {fs : List FD} (hk : lk S k = some (.cells (fs.map .f))) (h : DPS p n s Q (mapS (fpV k fs) E) (era k S) nk) : DPS p n s Q E S nk := .mk fun Z β H F hS hE => by
 obtain ⟨Z', hS', hE', _, _⟩ := frzP_ok hS hE hk
 exact h.run Z' β H F hS' hE'
end
def BLea (a : Nat) (β β' : Beta) : Prop := ∀ k s, k < a -> β (k, 0) = some s -> β' (k, 0) = some s
def DXa (p : Par) (a : Nat) (f : FuncId) (ds : List DV) (S : Bx) (nk : Nat) (R : DV -> Bx -> Nat -> Prop) : Prop := ∀ Z β H args, SR p Z β H S nk -> All2 (RDV Z H β) ds args ->
 ACalls p.P p.G f args H fun v H' => ∃ d S' nk' Z' β', SR p Z' β' H' S' nk' /\ RDV Z' H' β' d v /\ ZLe Z H Z' H' /\ BLea a β β' /\ R d S' nk'
abbrev Par.holdA (p : Par) (a : Nat) (Z : Nat -> Prop) (β : Beta) (H : Hp) : Par := ⟨p.P, p.G, p.GH, Z, p.lo, a, β, H, none⟩
theorem SR.holdA {p : Par} {a : Nat} {Z : Nat -> Prop} {β : Beta} {H : Hp} {S : Bx} {nk : Nat} (h : SR p Z β H S nk) (ha : a <= nk) : SR (p.holdA a Z β H) Z β H S nk :=
 ⟨h.wf, h.lo, h.z, fun _ hb => .inl hb, fun _ hb => hb, fun b bk hb => hb.elim (fun hb => h.glob b bk (.inl hb)) fun hb => hb, h.nk, h.bd, h.box, h.inj, h.blo, fun _ _ _ => rfl, ha⟩
theorem SR.freeA {p : Par} {a : Nat} {Z Z' : Nat -> Prop} {β β' : Beta} {H H' : Hp} {S S' : Bx} {nk nk' : Nat} (h : SR p Z β H S nk) (ha : p.anc <= a) (h' : SR (p.holdA a Z β H) Z' β' H' S' nk') : SR p Z' β' H' S' nk' /\ ZLe Z H Z' H' /\ BLea a β β' := by
 have hz : ∀ b, Z b -> Z' b := h'.zz
 refine ⟨⟨h'.wf, h'.lo, h'.z, fun b hb => (h'.zlo b hb).elim (h.zlo b) .inr, fun b hb => hz b (h.zz b hb), fun b bk hb => h'.glob b bk (.inr (h.glob b bk hb)), h'.nk, h'.bd, h'.box, h'.inj, h'.blo, fun κ hκ h0 => ?_, Nat.le_trans ha h'.ancn⟩, fun b hb => ⟨hz b hb, fun i c hc => ?_⟩, fun k s hk hκ => ?_⟩
 ·exact (h'.anch κ (Nat.lt_of_lt_of_le hκ ha) h0).trans (h.anch κ hκ h0)
 ·unfold Hp.cell at hc ⊢
  cases hg : H.get b with
  | none => rw [hg] at hc; cases hc
  | some bk => rw [(h'.glob b bk (.inr ⟨hb, hg⟩)).2]; rw [hg] at hc; exact hc
 ·exact (h'.anch (k, 0) hk rfl).trans hκ
theorem dxa_ok {p : Par} {a : Nat} {f : FuncId} {sf : SFn} (hf : cpFn p.P p.G f = some sf) {ds : List DV} {S : Bx} {nk : Nat} {R : DV -> Bx -> Nat -> Prop} (hn : Nat.ble ds.length sf.n = true) (ha : p.anc <= a) (hank : a <= nk)
  (h : ∀ Z β H, DPS (p.holdA a Z β H) sf.n sf.code (retO (p.holdA a Z β H) sf.res R) (argsD ds 0) S nk) : DXa p a f ds S nk R := by
 intro Z β H args hS hag
 refine fn_ok hf (by rw [<- hag.len]; exact Nat.le_of_ble_eq_true hn) ?_
 refine swp_mono ((h Z β H).run Z β H _ (hS.holdA hank) (argsD_ok 0 hag)) fun e F' H' ⟨E', S', nk', Z', β', h1, h2, h3⟩ => ?_
 have fin : (∃ d, resultD (p.holdA a Z β H) E' S' sf.res = some d /\ onesD d = true /\ ∃ S0, SubA S0 S' /\ R d S0 nk') -> ∃ v, aResult F' H' sf.res = some v /\ ∃ d S' nk' Z' β', SR p Z' β' H' S' nk' /\ RDV Z' H' β' d v /\ ZLe Z H Z' H' /\ BLea a β β' /\ R d S' nk' := fun ⟨d, hd, hfr, S0, hsub, hR⟩ => by
  obtain ⟨v, hv, hr⟩ := resultO_ok h1 h2 hd hfr
  obtain ⟨g1, g2, g3⟩ := hS.freeA ha (h1.keepS hsub)
  exact ⟨v, hv, d, S0, nk', Z', β', g1, hr, g2, g3, hR⟩
 cases e with
 | normal => obtain ⟨v, hv, hr⟩ := fin h3; simp only [retQ, hv]; exact hr
 | ret => obtain ⟨v, hv, hr⟩ := fin h3; simp only [retQ, hv]; exact hr
 | _ => exact h3.elim
section
variable {p : Par} {base rs : Nat} {Q : DEnv -> Bx -> Nat -> Prop} {r : List SOper} {W : Wt} {A : List Nat} {E : DEnv} {S : Bx} {nk : Nat} {id : Nat} {dst : Option Nat} {aid : Option Nat} {ws : List Nat} {keep : Bool}
theorem blea_cut {a : Nat} {β β' : Beta} (h : BLea a β β') : BLe0 (rnBeta [] a β) β' := fun k s hk => by
 by_cases hka : k < a
 ·simp only [rnBeta, if_pos hka] at hk
  exact h k s hka hk
 ·simp only [rnBeta, if_neg hka] at hk
  cases hk
theorem SR.none {Z : Nat -> Prop} {β : Beta} {H : Hp} (h : SR p Z β H S nk) : SR p Z β H [] nk := h.keepS (SubA.nil _)
theorem dw_cxva {x : Opd} {f : FuncId} {caps : List (Nat × Nat)} {args : List Opd} {ds : List DV} {R : DV -> Bx -> Nat -> Prop} {E0 : DEnv} {S0 : Bx} {n0 a : Nat} (ρ : List (Nat × Nat)) (hw : Wk p ρ n0 E0 S0 E S) (hx : ro E0 x = some (.one (.fn f caps))) (hf : isFn p.P f = true) (hvs : ros E0 args = some ds) (hW : noW W = true) (hT : noT E0 = true) (hsm : Wk p [] a E0 [] E0 []) (hc : DXa p a f (ds ++ capsA caps) S0 n0 R) (h : ∀ d S' nk', R d S' nk' -> DPW p base 0 Q r W A (setD E0 dst d) S' nk') : DPW p base rs Q (⟨id, dst, .cv x args, none, aid, ws, keep⟩ :: r) W A E S nk := .mk fun Z β H F c hS hE hC hA => by
 obtain ⟨hS0, hE0⟩ := wk_ok2 hS hE hw
 obtain ⟨_, hEa⟩ := wk_ok2 hS0.none hE0 hsm
 obtain ⟨cx, hcx, caps', rfl, hcaps⟩ := ro_ok hE0 hx
 simp only [wOps, wantedA, if_true, hcx]
 refine ⟨hf, ?_⟩
 refine (hc Z _ H _ hS0 ((ros_ok hE0 hvs).append (capsA_ok hcaps))).mono ?_
 rintro v H' ⟨d, S', nk', Z', β', hS', hr, hZ, hB, hR⟩
 have hC' : CR W Z' β' H' c := hC.noW (noW_mem hW) hZ
 exact ⟨hC'.watch ws, (h d S' nk' hR).run Z' β' H' _ c hS' ((hEa.mono0 hZ (blea_cut hB) hT).set dst hr) hC' ⟨hA.1, fun j hj => absurd hj oM⟩⟩
theorem dw_wk {E0 : DEnv} {S0 : Bx} {n0 : Nat} (ρ : List (Nat × Nat)) (hw : Wk p ρ n0 E0 S0 E S) (hW : noW W = true) (h : DPW p base 0 Q r W A E0 S0 n0) : DPW p base rs Q r W A E S nk := .mk fun Z β H F c hS hE hC hA => by
 obtain ⟨hS0, hE0⟩ := wk_ok2 hS hE hw
 exact h.run Z _ H F c hS0 hE0 (hC.noW (noW_mem hW) (ZLe.refl Z H)) ⟨hA.1, fun j hj => absurd hj oM⟩
end
section
variable {p : Par} {n : Nat} {Q : Exit -> DEnv -> Bx -> Nat -> Prop} {E : DEnv} {S : Bx} {nk : Nat}
theorem ds_virtC {s : SC} (kb i esz : Nat) {l : List DC} (hk : lk S kb = some (.cells l)) (hi : l[i]? = some (.f (.c .nils))) (h : DPS p n s Q E ((nk, .data []) :: put kb (.cells (l.set i (.own nk 0 0 esz))) S) (nk + 1)) : DPS p n s Q E S nk := .mk fun Z β H F hS hE => by
 have hT := virt_ok hS
 have hB := hS.ble .nil
 have hkn := hS.lt hk
 have hkT : lk ((nk, .data []) :: S) kb = some (.cells l) := by rw [lk_cons, if_neg (by omega)]; exact hk
 refine h.run Z _ H F ?_ (hE.mono (ZLe.refl Z H) hB)
 have hput : ∀ j, lk ((nk, .data []) :: put kb (.cells (l.set i (.own nk 0 0 esz))) S) j = lk (put kb (.cells (l.set i (.own nk 0 0 esz))) ((nk, .data []) :: S)) j := fun j => by
  simp only [put, beq_ne (show nk ≠ kb by omega)]
 refine ⟨hT.wf, hT.lo, hT.z, hT.zlo, hT.zz, hT.glob, hT.nk, hT.bd, fun κ y hκ => ?_, fun κ κ' y y' b N N' hj hj' => ?_, hT.blo, hT.anch, hT.ancn⟩
 ·rw [lk2_congr (hput κ.1), lk2_put hkT rfl] at hκ
  split at hκ
  ·rename_i e
   split at hκ
   ·rename_i e2
    obtain rfl := key_eq e e2
    obtain rfl := Option.some.inj hκ
    obtain ⟨s, hs, hbx⟩ := hT.box (kb, 0) _ (lk2_of hkT rfl)
    refine ⟨s, hs, ?_⟩
    cases s with
    | nil =>
     have : l = [] := List.eq_nil_of_length_eq_zero hbx
     subst this; cases hi
    | blk b N =>
     obtain ⟨g1, g2, g3, cs, rest, g4, g5, g6⟩ := hbx
     refine ⟨g1, g2, g3, cs, rest, g4, g5, ?_⟩
     obtain ⟨c, hc, hr⟩ := All2.at g6 i _ hi
     cases hr
     have hset : cs.set i .nils = cs := by
      refine List.ext_getElem? fun j => ?_
      rw [List.getElem?_set]
      split
      ·rename_i ej; subst ej; rw [hc]; first|rfl|rw [if_pos (List.getElem?_eq_some_iff.1 hc).1]
      ·rfl
     show All2 _ _ _
     rw [<- hset]
     exact All2.set g6 i (.inl ⟨updB_self _ _ _, rfl, rfl, rfl⟩)
   ·cases hκ
  ·exact hT.box κ y hκ
 ·rw [hput] at hj hj'
  rw [lk_put] at hj hj'
  have f : ∀ a z, (if a = kb then Option.map (fun _ => Bk.cells (l.set i (.own nk 0 0 esz))) (lk ((nk, .data []) :: S) a) else lk ((nk, .data []) :: S) a) = some z -> ∃ z', lk ((nk, .data []) :: S) a = some z' := fun a z hz => by
   split at hz
   ·cases hl : lk ((nk, .data []) :: S) a with
    | none => rw [hl] at hz; cases hz
    | some q => exact ⟨q, rfl⟩
   ·exact ⟨z, hz⟩
  obtain ⟨z1, e1⟩ := f κ.1 y hj
  obtain ⟨z2, e2⟩ := f κ'.1 y' hj'
  exact hT.inj κ κ' z1 z2 b N N' e1 e2
def scopeD (Q : Exit -> DEnv -> Bx -> Nat -> Prop) : Exit -> DEnv -> Bx -> Nat -> Prop
 | .goto _, _, _, _ => False
 | e, E, S, nk => Q e E S nk
theorem ds_scope {a : SC} (h : DPS p n a (scopeD Q) E S nk) : DPS p n (.scope a) Q E S nk := .mk fun Z β H F hS hE => swp_scope (swp_mono (h.run Z β H F hS hE) fun e F' H' ⟨E', S', nk', Z', β', h1, h2, h3⟩ => by
 cases e with
 | goto _ => exact h3.elim
 | _ => exact ⟨E', S', nk', Z', β', h1, h2, h3⟩)
end
end Go.Ab

namespace Go.Af
open Go.Ab Go.Proofs
set_option linter.unusedSimpArgs false
def picF (p : Pic) : List FD := [.c (.int .i64 p.w), .c (.int .i64 p.h), .c (.int .i64 p.gap), .sl 3 p.fs.length (p.fs.flatMap ftF)]
def rowPt (l : List Pt2) : FD := .sl 2 l.length (l.flatMap ptF)
theorem rnB_site (ρ : List (Nat × Nat)) (p : Pic) (d : DC) (A : List Bool) : rnB ρ (.cells (siteC p d A)) = .cells (siteC p (rnC ρ d) A) := by
 have e : List.map (rnC ρ) (A.map bC) = A.map bC := by
  rw [List.map_map]
  congr 1
 simp only [rnB, siteC, picC, rnL_map, List.cons_append, List.nil_append, List.map_cons, e]
 rfl
theorem smB_site {n : Nat} {p : Pic} {d : DC} {A : List Bool} (h : smC n d = true) : smB n (.cells (siteC p d A)) = true := by
 have e : ∀ x, smC n (.f x) = true := fun _ => rfl
 simp only [smB, siteC, picC, List.cons_append, List.nil_append, allB, e, h, allB_arr]
theorem fzB_site {k n e : Nat} {l : List FD} {p : Pic} {A : List Bool} : fzB k l (.cells (siteC p (.own k 0 n e) A)) = .cells (siteC p (.f (.sl e n l)) A) := by
 have e1 : List.map (fzC k l) (A.map bC) = A.map bC := by
  rw [List.map_map]
  congr 1
 simp only [fzB, siteC, picC, List.cons_append, List.nil_append, List.map_cons, e1, fzC, beq_self]
theorem okL_arr {k : Nat} {ok : Nat -> Nat -> Nat -> Prop} : ∀ A : List Bool, okL k ok (A.map bC)
 | [] => trivial
 | _ :: A => ⟨trivial, okL_arr A⟩
theorem okB_site {k n : Nat} {l : List FD} {p : Pic} {A : List Bool} (h : l.length = n * 1) : okB k (okW l) (.cells (siteC p (.own k 0 n 1) A)) := by
 refine ⟨trivial, trivial, trivial, trivial, ?_, okL_arr A⟩
 simp only [okC, beq_self]
 exact ⟨rfl, h⟩
theorem stB_site4 (p : Pic) (d d' : DC) (A : List Bool) : stB (.cells (siteC p d A)) 4 [d'] = .cells (siteC p d' A) := rfl
theorem stB_siteA (p : Pic) (d : DC) (A : List Bool) (n : Nat) (b : Bool) : stB (.cells (siteC p d A)) (5 + n) [bC b] = .cells (siteC p d (A.set n b)) := by
 rw [stB, setLs, setLs, siteC_set]
theorem len_site (p : Pic) (d : DC) (A : List Bool) : (Bk.cells (siteC p d A)).len = A.length + 5 := by
 simp [Bk.len, siteC, picC]
theorem dw_site {par : Par} {base rs : Nat} {Q : DEnv -> Bx -> Nat -> Prop} {r : List SOper} {A : List Nat} {E : DEnv} {S : Bx} {nk i1 i2 n : Nat} {p : Pic} {z : List C} (hz : isRep n z = true) (hl : lk E 11 = some (picD p))
  (h : DPW par base rs Q r [] A ((13, .one (.ptr nk 0)) :: (12, .agg (siteC p (.f (.c .nils)) (List.replicate n false))) :: E) ((nk, .cells (siteC p (.f (.c .nils)) (List.replicate n false))) :: S) (nk + 1)) :
  DPW par base rs Q (⟨i1, some 12, .p (.build (.int .i64 0 :: .int .i64 0 :: .int .i64 0 :: .nils :: .nils :: z) [(0, 4, .t 11)]), none, none, [], false⟩ :: ⟨i2, some 13, .a (.box (.t 12)), none, none, [], false⟩ :: r) [] A E S nk := by
 obtain rfl := isRep_ok hz
 have e1 : (List.replicate n (C.bool false)).map toC = (List.replicate n false).map bC := by
  simp only [List.map_replicate]
  rfl
 refine dw_p (d := .agg (siteC p (.f (.c .nils)) (List.replicate n false))) ?_ (dw_a (x := .cells (siteC p (.f (.c .nils)) (List.replicate n false))) rfl h)
 have hro : ro E (.t 11) = some (picD p) := hl
 have hc : cellsD (picD p) = some (picC p) := rfl
 have hle : ∀ l : List DC, Nat.ble (0 + 4) (l.length + 1 + 1 + 1 + 1 + 1) = true := fun l => by simp
 simp only [dPure, fillD, List.map_cons, hro, hc, List.length_cons, hle, e1]
 rfl
set_option maxHeartbeats 8000000 in
theorem d_survey {p : Pic} (hv : validPic p = true) : DK 16 [picD p] fun d => ∃ A, SiteOk p A /\ d = siteV p A := by
 refine dfn_ok cp16 rfl GHro fun Z0 lo => ?_
 have hh := (validPic_fs hv).2.2.1
 simp only [headOk, Bool.and_eq_true, decide_eq_true_eq] at hh
 obtain ⟨⟨⟨hw1, hw2⟩, _⟩, ⟨hh1, hh2⟩, _⟩ := hh
 have hgap : 2 <= p.gap /\ p.gap <= 6 := by
  have := (validPic_fs hv).2.2.2
  simp only [gapOk, Bool.and_eq_true, decide_eq_true_eq] at this
  exact this.1
 have hl8 := (validPic_fs hv).1
 have hpl : (ptsOf p).length = p.fs.length := by simp [ptsOf]
 refine ds_seq ?_
 refine ds_ops mix (fun base => ?_)
 refine dw_a rfl ?_
 refine dw_p rfl ?_
 refine dw_nil ?_
 refine ds_frzP 0 (fs := picF p) rfl ?_
 refine ds_seq ?_
 refine ds_ops mix (fun base => ?_)
 refine dw_l (d := picD p) rfl ?_
 refine dw_site (n := 3600) (by kernel_rfl) rfl ?_
 refine dw_p rfl ?_
 refine dw_nil ?_
 refine ds_keep (SubA.cons (k := 1) rfl (SubA.cons (k := 3) rfl (SubA.nil _))) (SubA.cons (k := 1) rfl (SubA.nil _)) ?_
 refine goD ?_; intros
 refine ds_virtC 1 4 1 (l := siteC p (.f (.c .nils)) (List.replicate 3600 false)) rfl rfl ?_
 refine ds_loop (fun m E S nk => ∃ (i : Nat) (A : List Bool), i + m = p.fs.length /\ TkP A (nearL p ((ptsOf p).take i).flatten) /\ E = [(1, .one (.fptr (picF p))), (3, .one (.ptr 1 0)), (15, .one (.f (.sl 3 p.fs.length (p.fs.flatMap ftF)))), (16, .int p.fs.length), (17, .int i)] /\ S = [(1, .cells (siteC p (.own 2 0 i 1) A)), (2, .data (((ptsOf p).take i).map rowPt))] /\ nk = 3)
  ⟨p.fs.length, _, _, _, [], ?wk, 0, List.replicate 3600 false, by omega, TkP.none.congr fun _ _ _ _ => by simp [nearL], rfl, rfl, rfl⟩ ?_
 case wk => exact ⟨(by repeat (first|exact trivial|refine ⟨by first|rfl|exact cgI (by omega) (by omega), rfl, ?_⟩)), ⟨by rw [rnB_site]; rfl, smB_site rfl, rfl, rfl, rfl, rfl, trivial⟩, rfl, rfl⟩
 rintro m E S nk ⟨i, A, hi, hA, rfl, rfl, rfl⟩
 refine goD ?_; intros
 refine ds_if rfl (fun hi2 => ?_) (fun hi2 => ?_)
 ·have hi2 : i < p.fs.length := by have := of_decide_eq_true hi2; omega
  obtain ⟨f, hf⟩ : ∃ f, p.fs[i]? = some f := ⟨_, List.getElem?_eq_getElem hi2⟩
  have e1 := ftF_at hf
  have hvf := validPic_v hv f (List.mem_of_getElem? hf)
  have hcp := d_points hvf
  have hpi : (ptsOf p)[i]? = some (pointsF f) := by simp [ptsOf, hf]
  have hin := pointsF_in60 hvf
  have hln := pointsF_len hvf
  generalize pointsF f = l at hcp hpi hin hln
  have htk : (ptsOf p).take (i + 1) = (ptsOf p).take i ++ [l] := by rw [List.take_add_one, hpi]; rfl
  have htm : ((ptsOf p).take (i + 1)).map rowPt = ((ptsOf p).take i).map rowPt ++ [rowPt l] := by rw [htk, List.map_append]; rfl
  have htf : ((ptsOf p).take (i + 1)).flatten = ((ptsOf p).take i).flatten ++ l := by rw [htk]; simp
  have hrl : (((ptsOf p).take i).map rowPt).length = i * 1 := by rw [List.length_map, List.length_take]; omega
  clear htk
  generalize ((ptsOf p).take i).map rowPt = rows at htm hrl
  generalize ((ptsOf p).take i).flatten = D at htf hA
  refine goD ?_; intros
  refine dw_cf rfl rfl hcp ?_
  rintro _ rfl
  refine goD ?_; intros
  refine dw_app (m := 1) (q := [rowPt l]) rfl rfl rfl (subL_all _ hrl) ⟨rfl, rfl, _, rfl, rfl⟩ oM oM (by decide) rfl ?_
  refine dw_p rfl ?_
  refine dw_p rfl ?_
  refine dw_st (k := 1) (o := 4) rfl rfl rfl rfl rfl (by rw [len_site]; omega) rfl ?_
  rw [stB_site4]
  refine goD ?_; intros
  have hrl2 : (rows ++ [rowPt l]).length = (i + 1) * 1 := by rw [List.length_append, List.length_singleton]; omega
  refine ds_loop (fun m E S nk => ∃ (j : Nat) (A : List Bool), j + m = l.length /\ TkP A (nearL p (D ++ l.take j)) /\ E = [(1, .one (.fptr (picF p))), (3, .one (.ptr 1 0)), (15, .one (.f (.sl 3 p.fs.length (p.fs.flatMap ftF)))), (16, .int p.fs.length), (17, .int i), (33, ptsD l), (34, .int l.length), (35, .int j)] /\ S = [(1, .cells (siteC p (.own 2 0 (i + 1) 1) A)), (2, .data (rows ++ [rowPt l]))] /\ nk = 3)
   ⟨l.length, _, _, _, [(2, 5)], ?wk2, 0, A, by omega, by rw [List.take_zero, List.append_nil]; exact hA, rfl, rfl, rfl⟩ ?_
  case wk2 => exact ⟨(by repeat (first|exact trivial|refine ⟨by first|rfl|exact cgI (by omega) (by omega), rfl, ?_⟩)), ⟨by rw [rnB_site]; rfl, smB_site rfl, rfl, rfl, rfl, rfl, trivial⟩, rfl, rfl⟩
  clear hA A
  rintro m2 E S nk ⟨j, A, hj, hA, rfl, rfl, rfl⟩
  refine goD ?_; intros
  refine ds_if rfl (fun hj2 => ?_) (fun hj2 => ?_)
  ·have hj2 : j < l.length := by have := of_decide_eq_true hj2; omega
   obtain ⟨q, hq⟩ : ∃ q, l[j]? = some q := ⟨_, List.getElem?_eq_getElem hj2⟩
   have e2 := ptF_at hq
   have hq6 := hin q (List.mem_of_getElem? hq)
   rw [in60_iff] at hq6
   have hqs : D ++ l.take (j + 1) = (D ++ l.take j) ++ [q] := by rw [List.take_add_one, hq, List.append_assoc]; rfl
   generalize D ++ l.take j = L at hA hqs
   have w1 : IntKind.i64.wrap (q.2 - p.gap) = q.2 - p.gap := dwrap oM oM
   have w2 : IntKind.i64.wrap (q.2 + p.gap) = q.2 + p.gap := dwrap oM oM
   have w3 : IntKind.i64.wrap (q.1 - p.gap) = q.1 - p.gap := dwrap oM oM
   have w4 : IntKind.i64.wrap (q.1 + p.gap) = q.1 + p.gap := dwrap oM oM
   have w5 : IntKind.i64.wrap (p.h - 1) = p.h - 1 := dwrap oM oM
   have w6 : IntKind.i64.wrap (p.w - 1) = p.w - 1 := dwrap oM oM
   obtain ⟨y0, hy0⟩ : ∃ y0 : Nat, max 0 (q.2 - p.gap) = (y0 : Int) := ⟨(max 0 (q.2 - p.gap)).toNat, oM⟩
   obtain ⟨x0, hx0⟩ : ∃ x0 : Nat, max 0 (q.1 - p.gap) = (x0 : Int) := ⟨(max 0 (q.1 - p.gap)).toNat, oM⟩
   refine goD ?_; intros
   rw [w1, hy0]
   refine ds_frzP 3 (fs := ptF q) rfl ?_
   refine ds_loop (fun m E S nk => ∃ (y : Nat) (A : List Bool), y + m = 60 /\ y0 <= y /\ TkP A (mkY p L q y) /\ E = [(1, .one (.fptr (picF p))), (3, .one (.ptr 1 0)), (15, .one (.f (.sl 3 p.fs.length (p.fs.flatMap ftF)))), (16, .int p.fs.length), (17, .int i), (33, ptsD l), (34, .int l.length), (35, .int j), (8, .one (.fptr (ptF q))), (9, .int y)] /\ S = [(1, .cells (siteC p (.own 2 0 (i + 1) 1) A)), (2, .data (rows ++ [rowPt l]))] /\ nk = 3)
    ⟨60 - y0, _, _, _, [], ?wk3, y0, A, by omega, Nat.le_refl _, by rw [<- hy0]; exact hA.congr fun _ _ _ _ => mkY_start, rfl, rfl, rfl⟩ ?_
   case wk3 => exact ⟨(by repeat (first|exact trivial|refine ⟨by first|rfl|exact cgI (by omega) (by omega), rfl, ?_⟩)), ⟨by rw [rnB_site]; rfl, smB_site rfl, rfl, rfl, rfl, rfl, trivial⟩, rfl, rfl⟩
   clear hA A
   rintro m3 E S nk ⟨y, A, hym, hy1, hA, rfl, rfl, rfl⟩
   refine goD ?_; intros
   refine ds_if rfl (fun hy2 => ?_) (fun hy2 => ?_)
   ·have hy2 := of_decide_eq_true hy2
    rw [w5, w2] at hy2
    have hyw : IntKind.i64.wrap ((y : Int) + 1) = ((y + 1 : Nat) : Int) := by rw [dwrap (by omega) (by omega)]; omega
    refine goD ?_; intros
    rw [w3, hx0]
    refine ds_loop (fun m E S nk => ∃ (x : Nat) (A : List Bool), x + m = 60 /\ x0 <= x /\ TkP A (mkX p L q y x) /\ E = [(1, .one (.fptr (picF p))), (3, .one (.ptr 1 0)), (15, .one (.f (.sl 3 p.fs.length (p.fs.flatMap ftF)))), (16, .int p.fs.length), (17, .int i), (33, ptsD l), (34, .int l.length), (35, .int j), (8, .one (.fptr (ptF q))), (9, .int y), (10, .int x)] /\ S = [(1, .cells (siteC p (.own 2 0 (i + 1) 1) A)), (2, .data (rows ++ [rowPt l]))] /\ nk = 3)
     ⟨60 - x0, _, _, _, [], ?wk4, x0, A, by omega, Nat.le_refl _, by rw [<- hx0]; exact hA.congr fun _ _ _ _ => mkX_start, rfl, rfl, rfl⟩ ?_
    case wk4 => exact ⟨(by repeat (first|exact trivial|refine ⟨by first|rfl|exact cgI (by omega) (by omega), rfl, ?_⟩)), ⟨by rw [rnB_site]; rfl, smB_site rfl, rfl, rfl, rfl, rfl, trivial⟩, rfl, rfl⟩
    clear hA A
    rintro m4 E S nk ⟨x, A, hxm, hx1, hA, rfl, rfl, rfl⟩
    refine goD ?_; intros
    refine ds_if rfl (fun hx2 => ?_) (fun hx2 => ?_)
    ·have hx2 := of_decide_eq_true hx2
     rw [w6, w4] at hx2
     refine goD ?_; intros
     refine dw_p (d_aaddr rfl rfl oM oM) ?_
     refine dw_p (d_aaddr rfl rfl oM oM) ?_
     rw [show 0 + 5 + (y : Int).toNat * 60 + (x : Int).toNat * 1 = 5 + (y * 60 + x) by omega]
     refine dw_st (k := 1) (o := 5 + (y * 60 + x)) (l := [bC true]) rfl rfl rfl rfl rfl (by rw [len_site, hA.1]; omega) rfl ?_
     rw [stB_siteA]
     have hset := (hA.set (y := y) (x := x) oM oM).congr (Q := mkX p L q y ((x + 1 : Nat) : Int)) fun j i _ _ => by
      rw [mkX_step (by omega) (by omega) (by omega) (by omega)]
      rfl
     refine goD ?_; intros
     refine ⟨m4 - 1, oM, _, _, _, [], ?wk5, x + 1, _, oM, oM, hset, rfl, rfl, rfl⟩
     case wk5 => exact ⟨(by repeat (first|exact trivial|refine ⟨by first|rfl|exact cgI (by omega) (by omega), rfl, ?_⟩)), ⟨by rw [rnB_site]; rfl, smB_site rfl, rfl, rfl, rfl, rfl, trivial⟩, rfl, rfl⟩
    ·have hx2 := of_decide_eq_false hx2
     rw [w6, w4] at hx2
     refine goD ?_; intros
     refine ⟨m3 - 1, oM, _, _, _, [], ?wk6, y + 1, A, oM, oM, hA.congr fun _ _ _ _ => (mkX_end hx2).trans (by rfl), rfl, rfl, rfl⟩
     case wk6 => exact ⟨(by repeat (first|exact trivial|refine ⟨by first|rfl|exact cgI (by omega) (by omega), rfl, ?_⟩)), ⟨by rw [rnB_site]; rfl, smB_site rfl, rfl, rfl, rfl, rfl, trivial⟩, rfl, rfl⟩
   ·have hy2 := of_decide_eq_false hy2
    rw [w5, w2] at hy2
    refine goD ?_; intros
    refine ⟨m2 - 1, by omega, _, _, _, [], ?wk7, j + 1, A, by omega, by rw [hqs]; exact hA.congr fun _ _ _ _ => mkY_end hy2, rfl, rfl, rfl⟩
    case wk7 => exact ⟨(by repeat (first|exact trivial|refine ⟨by first|rfl|exact cgI (by omega) (by omega), rfl, ?_⟩)), ⟨by rw [rnB_site]; rfl, smB_site rfl, rfl, rfl, rfl, rfl, trivial⟩, rfl, rfl⟩
  ·have hj2 : j = l.length := by have := of_decide_eq_false hj2; omega
   subst hj2
   rw [List.take_length, <- htf] at hA
   refine goD ?_; intros
   refine ⟨m - 1, by omega, _, _, _, [], ?wk8, i + 1, A, by omega, hA, rfl, by rw [htm], rfl⟩
   case wk8 => exact ⟨(by repeat (first|exact trivial|refine ⟨by first|rfl|exact cgI (by omega) (by omega), rfl, ?_⟩)), ⟨by rw [rnB_site]; rfl, smB_site rfl, rfl, rfl, rfl, rfl, trivial⟩, rfl, rfl⟩
 ·have hi2 : i = p.fs.length := by have := of_decide_eq_false hi2; omega
  subst hi2
  have htl : (ptsOf p).take p.fs.length = ptsOf p := by rw [<- hpl, List.take_length]
  rw [htl] at hA ⊢
  have hml : ((ptsOf p).map rowPt).length = p.fs.length * 1 := by rw [List.length_map]; omega
  refine ds_frz 2 (m := (ptsOf p).map rowPt) rfl ⟨trivial, trivial, trivial, trivial, trivial, trivial, trivial⟩ ⟨okB_site hml, trivial, trivial⟩ ?_
  rw [show mapS (fzB 2 ((ptsOf p).map rowPt)) (era 2 [(1, Bk.cells (siteC p (.own 2 0 p.fs.length 1) A)), (2, Bk.data ((ptsOf p).map rowPt))]) = [(1, Bk.cells (siteC p (.f (.sl 1 p.fs.length ((ptsOf p).map rowPt))) A))] by
   show [(1, fzB 2 ((ptsOf p).map rowPt) (.cells (siteC p (.own 2 0 p.fs.length 1) A)))] = _
   rw [fzB_site]]
  refine ds_frzP 1 (fs := siteF p p.fs.length ((ptsOf p).map rowPt) A) (congrArg (fun l => some (Bk.cells l)) (siteF_C ..)) ?_
  refine goD ?_; intros
  refine ds_ret ⟨_, rfl, rfl, A, hA, ?_⟩
  rw [siteV, hpl]
  rfl
def Few (p : Pic) : Prop := ∀ f ∈ p.fs, validF f = true -> (pointsF f).length <= 256
theorem d_clash {p : Pic} {A : List Bool} {i k : Nat} {a b : Pt2} (hi : i < 8) (hk : k < 8) (ha : Small 1000000 a) (hb : Small 1000000 b) : DK 18 [siteV p A, .int i, ptD a, .int k, ptD b] fun d => d = .bool (clashP p.gap i a k b) := by
 refine dfn_ok cp18 rfl GHro fun Z0 lo => ?_
 have n1 := lblP_len i a
 have n2 := lblP_len k b
 refine goD ?_; intros
 refine dw_cf rfl rfl (d_lpoints hi ha) ?_
 rintro _ rfl
 refine dw_cf rfl rfl (d_lpoints hk hb) ?_
 rintro _ rfl
 refine dw_cf rfl rfl (d_distance (lblP_small ha) (lblP_small hb) oM oM) ?_
 rintro _ rfl
 refine goD ?_; intros
 exact ds_ret ⟨_, rfl, rfl, rfl⟩
theorem d_aaddrF {E : DEnv} {x i : Opd} {len esz : Nat} {kd : IntKind} {j : Int} {l : List FD} (hx : ro E x = some (.one (.fptr l))) (hi : ro E i = some (.one (.f (.c (.int kd j))))) (h0 : 0 <= j) (h1 : j < len) : dPure E (.aaddr len esz x i) = some (.one (.fptr (l.drop (j.toNat * esz)))) := by
 have e : idx j len = some j.toNat := by
  obtain ⟨n, rfl⟩ := Int.eq_ofNat_of_zero_le h0
  have : n < len := by omega
  show (match Nat.blt n len with|true => some n|false => none) = _
  rw [show Nat.blt n len = true by simpa using this]
  rfl
 simp only [dPure, hx, hi, e]
theorem dload_fp {p : Par} {E : DEnv} {S : Bx} {a : Opd} {l : List FD} {x : FD} (ha : ro E a = some (.one (.fptr l))) (hl : l[0]? = some x) : dLoad p E S false 1 a = some (.one (.f x)) := by
 cases l with
 | nil => simp at hl
 | cons y l =>
  simp at hl
  subst hl
  have e : subL (y :: l) 0 1 = some [y] := by
   rw [subL_of (by simp)]
   simp
  simp only [dLoad, ha, rdC, e]
  rfl
theorem site_at (p : Pic) (n : Nat) (rows : List FD) {A : List Bool} {y x : Nat} {b : Bool} (h : A[y * 60 + x]? = some b) : ((((siteF p n rows A).drop 5).drop (y * 60)).drop (x * 1))[0]? = some (.c (.bool b)) := by
 have e : (siteF p n rows A).drop 5 = A.map bF := rfl
 rw [e, List.drop_drop, List.getElem?_drop, List.getElem?_map, show y * 60 + x * 1 + 0 = y * 60 + x by omega, h]
 rfl
theorem rowPt_at {all : List (List Pt2)} {i : Nat} {l : List Pt2} (h : all[i]? = some l) : subL (all.map rowPt) (i * 1) 1 = some [rowPt l] := by
 have := subL_flat (f := fun l : List Pt2 => [rowPt l]) (e := 1) (fun _ => rfl) h
 rw [<- List.map_eq_flatMap] at this
 exact this
theorem near_far {p : Pic} (hv : validPic p = true) {i : Nat} {q r : Pt2} (hr : r ∈ lblP i q) (hx : 0 <= r.1) (hy : 0 <= r.2) (hn : nearL p (ptsOf p).flatten r.2.toNat r.1.toNat) : (ptsOf p).all (farL p.gap (lblP i q)) = false := by
 obtain ⟨s, hs, _, _, hf⟩ := hn
 obtain ⟨l, hl, hsl⟩ := List.mem_flatten.1 hs
 rw [show ((r.1.toNat : Nat) : Int) = r.1 by omega, show ((r.2.toNat : Nat) : Int) = r.2 by omega] at hf
 have hd : dist (lblP i q) l <= p.gap := (dist_le (lblP_ne i q) (ptsOf_ne hv l hl)).2 ⟨r, hr, s, hsl, by
  unfold far at hf ⊢
  simp only at hf
  omega⟩
 rw [List.all_eq_false]
 exact ⟨l, hl, by rw [farL, decide_eq_true hd]; decide⟩
theorem not_near_far {p : Pic} (hv : validPic p = true) {i : Nat} {q : Pt2} (hin : ∀ r ∈ lblP i q, (0 <= r.1 /\ r.1 < p.w) /\ 0 <= r.2 /\ r.2 < p.h) (hn : ∀ r ∈ lblP i q, ¬ nearL p (ptsOf p).flatten r.2.toNat r.1.toNat) : (ptsOf p).all (farL p.gap (lblP i q)) = true := by
 rw [List.all_eq_true]
 intro l hl
 by_cases hd : dist (lblP i q) l <= p.gap
 ·obtain ⟨r, hr, s, hs, hf⟩ := (dist_le (lblP_ne i q) (ptsOf_ne hv l hl)).1 hd
  have h1 := hin r hr
  refine absurd ⟨s, List.mem_flatten.2 ⟨l, hl, hs⟩, ?_, ?_, ?_⟩ (hn r hr)
  ·omega
  ·omega
  ·rw [show ((r.1.toNat : Nat) : Int) = r.1 by omega, show ((r.2.toNat : Nat) : Int) = r.2 by omega]
   unfold far at hf ⊢
   simp only
   omega
 ·rw [farL, decide_eq_false hd]; rfl
set_option maxHeartbeats 8000000 in
theorem d_free {p : Pic} {A : List Bool} {i : Nat} {q : Pt2} (hv : validPic p = true) (hF : Few p) (hA : SiteOk p A) (hi : i < p.fs.length) (hq : Small 1000000 q) : DK 17 [siteV p A, .int i, ptD q] fun d => d = .bool (fitsP p i q) := by
 refine dfn_ok cp17 rfl GHro fun Z0 lo => ?_
 have hh := (validPic_fs hv).2.2.1
 simp only [headOk, Bool.and_eq_true, decide_eq_true_eq] at hh
 obtain ⟨⟨⟨hw1, hw2⟩, hw3⟩, ⟨hh1, hh2⟩, hh3⟩ := hh
 rw [Int.tmod_eq_emod_of_nonneg (by omega)] at hw3 hh3
 have hgap : 2 <= p.gap /\ p.gap <= 6 := by
  have := (validPic_fs hv).2.2.2
  simp only [gapOk, Bool.and_eq_true, decide_eq_true_eq] at this
  exact this.1
 have hl8 := (validPic_fs hv).1
 have hpl : (ptsOf p).length = p.fs.length := by simp [ptsOf]
 have hds := lblP_small (i := i) hq
 have hdl := lblP_len i q
 have w1 : IntKind.i64.wrap (p.w.tdiv 2) = p.w / 2 := by rw [Int.tdiv_eq_ediv_of_nonneg (by omega), dwrap (by omega) (by omega)]
 have w2 : IntKind.i64.wrap (p.h.tdiv 3) = p.h / 3 := by rw [Int.tdiv_eq_ediv_of_nonneg (by omega), dwrap (by omega) (by omega)]
 have w3 : IntKind.i64.wrap (p.w / 2 - 2) = p.w / 2 - 2 := dwrap oM oM
 have w4 : IntKind.i64.wrap (p.h / 3 - 1) = p.h / 3 - 1 := dwrap oM oM
 have w5 : IntKind.i64.wrap (3 * p.gap) = 3 * p.gap := dwrap oM oM
 refine goD ?_; intros
 refine ds_if rfl (fun ht => ?_) (fun ht => ?_)
 ·rw [itOr, itOr, itOr, w1, w2, w3, w4] at ht
  simp only [Bool.or_eq_true, decide_eq_true_eq] at ht
  refine goD ?_; intros
  refine ds_ret ⟨_, rfl, rfl, ?_⟩
  have : fitsH p q = false := by
   rw [Bool.eq_false_iff]
   intro h2
   simp only [fitsH, Bool.and_eq_true, decide_eq_true_eq] at h2
   omega
  rw [fitsP, this, Bool.false_and]
 ·rw [itOr, itOr, itOr, w1, w2, w3, w4] at ht
  simp only [Bool.or_eq_false_iff, decide_eq_false_iff_not] at ht
  have hfh : fitsH p q = true := by simp only [fitsH, Bool.and_eq_true, decide_eq_true_eq]; omega
  have hin := lblP_in (p := p) (i := i) (q := q) oM oM oM
  obtain ⟨l, hl⟩ : ∃ l, (ptsOf p)[i]? = some l := ⟨_, List.getElem?_eq_getElem oM⟩
  have hlf : l.length <= 256 := by
   obtain ⟨f, hf, rfl⟩ := List.mem_map.1 (List.mem_of_getElem? hl)
   exact hF f hf (validPic_v hv f hf)
  have hls := smalls60 (ptsOf_small hv l (List.mem_of_getElem? hl)).1
  have hfit : fitsP p i q = ((ptsOf p).all (farL p.gap (lblP i q)) && decide (dist (lblP i q) l <= 3 * p.gap)) := by
   rw [fitsP, hfh, Bool.true_and, hl]
   rfl
  rw [hfit]
  have e3 := rowPt_at hl
  refine goD ?_; intros
  refine dw_cf rfl rfl (d_lpoints (i := i) oM hq) ?_
  rintro _ rfl
  refine goD ?_; intros
  refine ds_loop (fun m E S nk => ∃ j : Nat, j + m = (lblP i q).length /\ (∀ (k : Nat) r, k < j -> (lblP i q)[k]? = some r -> ¬ nearL p (ptsOf p).flatten r.2.toNat r.1.toNat) /\ E = [(0, siteV p A), (1, .int i), (7, ptsD (lblP i q)), (45, ptsD (lblP i q)), (46, .int (lblP i q).length), (47, .int j)] /\ S = [] /\ nk = 0)
   ⟨(lblP i q).length, _, _, _, [], ?wk, 0, oM, fun k r hk => oM, rfl, rfl, rfl⟩ ?_
  case wk => exact wkA
  rintro m E S nk ⟨j, hj, hok, rfl, rfl, rfl⟩
  refine goD ?_; intros
  refine ds_if rfl (fun hj2 => ?_) (fun hj2 => ?_)
  ·have hj2 : j < (lblP i q).length := by have := of_decide_eq_true hj2; omega
   obtain ⟨r, hr⟩ : ∃ r, (lblP i q)[j]? = some r := ⟨_, List.getElem?_eq_getElem hj2⟩
   have e1 := ptF_at hr
   have hrm := List.mem_of_getElem? hr
   have hri := hin r hrm
   obtain ⟨b, hb, hbn⟩ := hA.at (y := r.2.toNat) (x := r.1.toNat) oM oM
   have e2 := site_at p (ptsOf p).length ((ptsOf p).map rowPt) hb
   refine goD ?_; intros
   refine dw_p (d_aaddrF rfl rfl oM oM) ?_
   refine dw_p (d_aaddrF rfl rfl oM oM) ?_
   refine dw_l (dload_fp rfl e2) ?_
   refine goD ?_; intros
   refine ds_if rfl (fun hbt => ?_) (fun hbt => ?_)
   ·refine goD ?_; intros
    refine ds_ret ⟨_, rfl, rfl, ?_⟩
    rw [near_far hv hrm hri.1.1 hri.2.1 (hbn.1 hbt), Bool.false_and]
   ·refine goD ?_; intros
    refine ⟨m - 1, oM, _, _, _, [], ?wk2, j + 1, oM, fun k r' hk hr' => ?_, rfl, rfl, rfl⟩
    case wk2 => exact wkA
    by_cases hkj : k = j
    ·subst hkj
     rw [hr] at hr'
     obtain rfl := Option.some.inj hr'
     exact fun h => by rw [hbn.2 h] at hbt; cases hbt
    ·exact hok k r' oM hr'
  ·have hj2 : j = (lblP i q).length := by have := of_decide_eq_false hj2; omega
   subst hj2
   have hall := not_near_far hv hin fun r hr => by
    obtain ⟨k, hk⟩ := List.getElem?_of_mem hr
    exact hok k r (List.getElem?_eq_some_iff.1 hk).1 hk
   rw [hall, Bool.true_and]
   refine goD ?_; intros
   refine dw_cf rfl rfl (d_distance hds hls oM oM) ?_
   rintro _ rfl
   refine goD ?_; intros
   refine ds_ret ⟨_, rfl, rfl, ?_⟩
   rw [w5]
theorem fitsP_last {p : Pic} (hv : validPic p = true) {i y x : Nat} (h : (p.w / 2).toNat - 1 <= x) : fitsP p i ((x : Int), (y : Int)) = false := by
 have hh := (validPic_fs hv).2.2.1
 simp only [headOk, Bool.and_eq_true, decide_eq_true_eq] at hh
 obtain ⟨⟨⟨hw1, hw2⟩, hw3⟩, _⟩ := hh
 have : fitsH p ((x : Int), (y : Int)) = false := by
  rw [Bool.eq_false_iff]
  intro h2
  simp only [fitsH, Bool.and_eq_true, decide_eq_true_eq] at h2
  omega
 rw [fitsP, this, Bool.false_and]
set_option maxHeartbeats 8000000 in
theorem d_choices {p : Pic} {A : List Bool} {i : Nat} (hv : validPic p = true) (hF : Few p) (hA : SiteOk p A) (hi : i < p.fs.length) : DK 19 [siteV p A, .int i] fun d => d = ptsD (candP p i) := by
 refine dfn_ok cp19 rfl GHro fun Z0 lo => ?_
 have hh := (validPic_fs hv).2.2.1
 simp only [headOk, Bool.and_eq_true, decide_eq_true_eq] at hh
 obtain ⟨⟨⟨hw1, hw2⟩, hw3⟩, ⟨hh1, hh2⟩, hh3⟩ := hh
 rw [Int.tmod_eq_emod_of_nonneg (by omega)] at hw3 hh3
 obtain ⟨nw, hnw⟩ : ∃ nw : Nat, nw = (p.w / 2).toNat - 1 := ⟨_, rfl⟩
 obtain ⟨nh, hnh⟩ : ∃ nh : Nat, nh = (p.h / 3).toNat := ⟨_, rfl⟩
 have hw4 : p.w = 2 * ((nw : Int) + 1) := by omega
 have hh4 : p.h = 3 * (nh : Int) := by omega
 have hnw2 : nw < 30 := by omega
 have hnh2 : nh <= 20 := by omega
 have w1 : IntKind.i64.wrap (p.w.tdiv 2) = ((nw + 1 : Nat) : Int) := by rw [Int.tdiv_eq_ediv_of_nonneg (by omega), dwrap (by omega) (by omega)]; omega
 have w2 : IntKind.i64.wrap (p.h.tdiv 3) = (nh : Int) := by rw [Int.tdiv_eq_ediv_of_nonneg (by omega), dwrap (by omega) (by omega)]; omega
 have hlast : ∀ y : Nat, fitsP p i ((nw : Int), (y : Int)) = false := fun y => fitsP_last (x := nw) hv oM
 refine goD ?_; intros
 rw [w2]
 refine ds_virt 5 2 rfl ?_
 refine ds_loop (fun m E S nk => ∃ (y : Nat) (out : List Pt2), y + m = nh /\ out = candN p i nw y /\ E = [(0, siteV p A), (1, .int i), (5, .one (.own 0 0 out.length 2)), (14, .int nh), (15, .int y)] /\ S = [(0, .data (out.flatMap ptF))] /\ nk = 1)
  ⟨nh, _, _, _, [], ?wk, 0, [], oM, rfl, rfl, rfl, rfl⟩ ?_
 case wk => exact wkA
 rintro m E S nk ⟨y, out, hy, ho, rfl, rfl, rfl⟩
 refine goD ?_; intros
 refine ds_if rfl (fun ht => ?_) (fun ht => ?_)
 ·have ht : y < nh := by have := of_decide_eq_true ht; omega
  have hcl := candN_len p i nw y
  have hcm : y * nw <= 20 * 30 := Nat.mul_le_mul oM oM
  refine goD ?_; intros
  rw [w1]
  refine ds_loop (fun m E S nk => ∃ (x : Nat) (o2 : List Pt2), x + m = nw + 1 /\ o2 = out ++ rowC p i y x /\ E = [(0, siteV p A), (1, .int i), (5, .one (.own 0 0 o2.length 2)), (14, .int nh), (15, .int y), (6, .int y), (23, .int (nw + 1 : Nat)), (24, .int x)] /\ S = [(0, .data (o2.flatMap ptF))] /\ nk = 1)
   ⟨nw + 1, _, _, _, [], ?wk2, 0, out, by omega, by simp [rowC], rfl, rfl, rfl⟩ ?_
  case wk2 => exact wkA
  rintro m2 E S nk ⟨x, o2, hx, ho2, rfl, rfl, rfl⟩
  have hrl := rowC_len p i y x
  have hol : o2.length <= 1000 := by rw [ho2, List.length_append, ho]; omega
  have hfl := ptF_len o2
  refine goD ?_; intros
  refine ds_if rfl (fun ht2 => ?_) (fun ht2 => ?_)
  ·have ht2 : x < nw + 1 := by have := of_decide_eq_true ht2; omega
   refine goD ?_; intros
   refine dw_cf rfl rfl (d_free (i := i) (q := ((x : Int), (y : Int))) hv hF hA hi (by unfold Small; simp only; omega)) ?_
   rintro _ rfl
   refine goD ?_; intros
   refine ds_if rfl (fun hf => ?_) (fun hf => ?_)
   ·refine goD ?_; intros
    refine dw_app (m := 1) (q := ptF ((x : Int), (y : Int))) rfl rfl rfl (subL_all _ hfl) ⟨rfl, rfl, _, rfl, rfl⟩ oM oM (by decide) rfl ?_
    rw [show o2.flatMap ptF ++ ptF ((x : Int), (y : Int)) = (o2 ++ [((x : Int), (y : Int))]).flatMap ptF by simp, show o2.length + 1 = (o2 ++ [((x : Int), (y : Int))]).length by simp]
    refine goD ?_; intros
    refine ⟨m2 - 1, by omega, _, _, _, [(0, 3)], ?wk3, x + 1, o2 ++ [((x : Int), (y : Int))], by omega, by rw [rowC_t hf, ho2, List.append_assoc], rfl, rfl, rfl⟩
    case wk3 => exact wkA
   ·refine goD ?_; intros
    refine ⟨m2 - 1, by omega, _, _, _, [], ?wk4, x + 1, o2, by omega, by rw [rowC_f hf, ho2], rfl, rfl, rfl⟩
    case wk4 => exact wkA
  ·have ht2 : x = nw + 1 := by have := of_decide_eq_false ht2; omega
   subst ht2
   rw [rowC_f (hlast y)] at ho2
   refine goD ?_; intros
   refine ⟨m - 1, by omega, _, _, _, [], ?wk5, y + 1, o2, by omega, by rw [candN_succ, ho2, ho], rfl, rfl, rfl⟩
   case wk5 => exact wkA
 ·have ht : y = nh := by have := of_decide_eq_false ht; omega
  subst ht
  have hfl := ptF_len out
  refine goD ?_; intros
  refine ds_keep (SubA.cons (k := 4) rfl (SubA.nil _)) (SubA.cons (k := 0) rfl (SubA.nil _)) ?_
  refine ds_frz 0 rfl okZ okZ ?_
  refine ds_ret ⟨_, rfl, rfl, ?_⟩
  rw [candP, <- hnw, <- hnh, <- ho]
  rfl
def freeK (g : Int) (l : List Pt2) (c : Pt2) (k : Nat) : Bool := (List.range k).all fun j => !clashP g l.length c j (at0 l j)
def tryL (f : Pt2 -> List Pt2) (N : Nat) : List Pt2 -> List Pt2
 | [] => []
 | c :: cs => if (f c).length = N then f c else tryL f N cs
def srch (g : Int) (all : List (List Pt2)) : Nat -> List Pt2 -> List Pt2
 | 0, l => l
 | n + 1, l => tryL (fun c => if freeK g l c l.length = true then srch g all n (l ++ [c]) else []) all.length ((all[l.length]?).getD [])
def alls (p : Pic) (i : Nat) : List (List Pt2) := (List.range i).map (candP p)
def sAt (p : Pic) (i : Nat) : List Pt2 := srch p.gap (alls p (i + 1)) (i + 1) []
abbrev Plc := List Pt2 × Int × Int
def plcD (r : Plc) : DV := .agg [.f (.sl 2 r.1.length (r.1.flatMap ptF)), .f (.c (.int .i64 r.2.1)), .f (.c (.int .i64 r.2.2))]
inductive PlcR (p : Pic) : Plc -> Prop
 | bad (i : Nat) (hi : i < p.fs.length) (hb : (sAt p i).length <= i) (hok : ∀ j, j < i -> ¬ (sAt p j).length <= j) : PlcR p ([], (i : Int), 150)
 | ok (hok : ∀ j, j < p.fs.length -> ¬ (sAt p j).length <= j) : PlcR p (sAt p (p.fs.length - 1), ((sAt p (p.fs.length - 1)).length : Int), 0)
theorem candP_small {p : Pic} (hv : validPic p = true) (i : Nat) : (∀ q ∈ candP p i, Small 1000000 q) /\ (candP p i).length < 1000000 := by
 have hh := (validPic_fs hv).2.2.1
 simp only [headOk, Bool.and_eq_true, decide_eq_true_eq] at hh
 have h1 : (p.w / 2).toNat - 1 <= 30 := by omega
 have h2 : (p.h / 3).toNat <= 20 := by omega
 refine ⟨fun q hq => ?_, ?_⟩
 ·unfold candP candN at hq
  obtain ⟨y, hy, hq⟩ := List.mem_flatMap.1 hq
  unfold rowC at hq
  obtain ⟨x, hx, rfl⟩ := List.mem_map.1 (List.mem_filter.1 hq).1
  have := List.mem_range.1 hx
  have := List.mem_range.1 hy
  unfold Small
  simp only
  omega
 ·have h3 := candN_len p i ((p.w / 2).toNat - 1) (p.h / 3).toNat
  have h4 : (p.h / 3).toNat * ((p.w / 2).toNat - 1) <= 20 * 30 := Nat.mul_le_mul h2 h1
  unfold candP
  omega
structure LegL (g : Int) (all : List (List Pt2)) (l : List Pt2) : Prop where
 le : l.length <= all.length
 ch : ∀ (i : Nat) (q : Pt2), l[i]? = some q -> q ∈ (all[i]?).getD []
 ap : ∀ (i k : Nat) (a b : Pt2), k < i -> l[i]? = some a -> l[k]? = some b -> clashP g i a k b = false
theorem clashP_comm (g : Int) (i k : Nat) (a b : Pt2) : clashP g i a k b = clashP g k b i a := by unfold clashP; rw [dist_comm]
theorem LegL.nil (g : Int) (all : List (List Pt2)) : LegL g all [] := ⟨Nat.zero_le _, fun _ _ h => by simp at h, fun _ _ _ _ _ h => by simp at h⟩
theorem LegL.take {g : Int} {all : List (List Pt2)} {l : List Pt2} (h : LegL g all l) (n : Nat) : LegL g all (l.take n) := by
 have e : ∀ {i : Nat} {q : Pt2}, (l.take n)[i]? = some q -> l[i]? = some q := fun {i q} hi => by
  rw [List.getElem?_take] at hi
  split at hi
  ·exact hi
  ·cases hi
 exact ⟨by rw [List.length_take]; have := h.le; omega, fun i q hi => h.ch i q (e hi), fun i k a b hk ha hb => h.ap i k a b hk (e ha) (e hb)⟩
theorem LegL.all {g : Int} {all all' : List (List Pt2)} {l : List Pt2} (h : LegL g all l) (hl : l.length <= all'.length) (he : ∀ i, i < l.length -> all'[i]? = all[i]?) : LegL g all' l :=
 ⟨hl, fun i q hi => by rw [he i (List.getElem?_eq_some_iff.1 hi).1]; exact h.ch i q hi, h.ap⟩
theorem freeK_iff {g : Int} {l : List Pt2} {c : Pt2} : freeK g l c l.length = true ↔ ∀ (j : Nat) (b : Pt2), l[j]? = some b -> clashP g l.length c j b = false := by
 unfold freeK
 rw [List.all_eq_true]
 constructor
 ·intro h j b hb
  have := h j (List.mem_range.2 (List.getElem?_eq_some_iff.1 hb).1)
  rw [at0_of hb] at this
  simpa using this
 ·intro h j hj
  obtain ⟨b, hb⟩ : ∃ r, l[j]? = some r := ⟨_, List.getElem?_eq_getElem (List.mem_range.1 hj)⟩
  rw [at0_of hb, h j b hb]
  rfl
theorem snoc_at {α : Type} {l : List α} {c q : α} {i : Nat} (h : (l ++ [c])[i]? = some q) : l[i]? = some q \/ (i = l.length /\ q = c) := by
 rcases Nat.lt_trichotomy i l.length with hi|hi|hi
 ·rw [List.getElem?_append_left hi] at h; exact .inl h
 ·subst hi
  simp at h
  exact .inr ⟨rfl, h.symm⟩
 ·rw [List.getElem?_eq_none (by simp; omega)] at h; cases h
theorem LegL.snoc {g : Int} {all : List (List Pt2)} {l : List Pt2} {c : Pt2} (h : LegL g all l) (hl : l.length < all.length) (hc : c ∈ (all[l.length]?).getD []) (hf : freeK g l c l.length = true) : LegL g all (l ++ [c]) := by
 refine ⟨by rw [List.length_append, List.length_singleton]; omega, fun i q hi => ?_, fun i k a b hk ha hb => ?_⟩
 ·rcases snoc_at hi with hi|⟨rfl, rfl⟩
  ·exact h.ch i q hi
  ·exact hc
 ·rcases snoc_at ha with g1|⟨g1, g2⟩
  ·rcases snoc_at hb with g3|⟨g3, g4⟩
   ·exact h.ap i k a b hk g1 g3
   ·have := (List.getElem?_eq_some_iff.1 g1).1; omega
  ·rcases snoc_at hb with g3|⟨g3, g4⟩
   ·rw [g1, g2]; exact freeK_iff.1 hf k b g3
   ·omega
theorem tryL_spec {f : Pt2 -> List Pt2} {N : Nat} : ∀ cs : List Pt2, (tryL f N cs = [] /\ ∀ c ∈ cs, (f c).length ≠ N) \/ ∃ (i : Nat) (c : Pt2), cs[i]? = some c /\ (∀ x ∈ cs.take i, (f x).length ≠ N) /\ (f c).length = N /\ tryL f N cs = f c
 | [] => .inl ⟨rfl, fun c hc => by cases hc⟩
 | c :: cs => by
  by_cases h : (f c).length = N
  ·exact .inr ⟨0, c, rfl, fun x hx => by simp at hx, h, by rw [tryL, if_pos h]⟩
  ·rcases tryL_spec cs with ⟨h1, h2⟩|⟨i, d, h1, h2, h3, h4⟩
   ·refine .inl ⟨by rw [tryL, if_neg h, h1], fun x hx => ?_⟩
    rcases List.mem_cons.1 hx with rfl|hx
    ·exact h
    ·exact h2 x hx
   ·refine .inr ⟨i + 1, d, by simpa using h1, fun x hx => ?_, h3, by rw [tryL, if_neg h, h4]⟩
    rw [List.take_succ_cons] at hx
    rcases List.mem_cons.1 hx with rfl|hx
    ·exact h
    ·exact h2 x hx
theorem tryL_at {f : Pt2 -> List Pt2} {N : Nat} {cs : List Pt2} {i : Nat} {c : Pt2} (h : cs[i]? = some c) (hb : ∀ x ∈ cs.take i, (f x).length ≠ N) (hc : (f c).length = N) : tryL f N cs = f c := by
 induction cs generalizing i with
 | nil => simp at h
 | cons x cs ih =>
  cases i with
  | zero => simp at h; subst h; rw [tryL, if_pos hc]
  | succ i =>
   rw [tryL, if_neg (hb x (by simp)), ih (by simpa using h) fun y hy => hb y (by rw [List.take_succ_cons]; exact List.mem_cons_of_mem _ hy)]
def stepF (g : Int) (all : List (List Pt2)) (n : Nat) (l : List Pt2) (c : Pt2) : List Pt2 := if freeK g l c l.length = true then srch g all n (l ++ [c]) else []
theorem srch_eq (g : Int) (all : List (List Pt2)) (n : Nat) (l : List Pt2) : srch g all (n + 1) l = tryL (stepF g all n l) all.length ((all[l.length]?).getD []) := rfl
theorem srch_len {g : Int} {all : List (List Pt2)} : ∀ {n : Nat} {l : List Pt2}, l.length + n = all.length -> (srch g all n l).length = all.length \/ srch g all n l = []
 | 0, l, h => .inl (by rw [srch]; omega)
 | n + 1, l, h => by
  rw [srch_eq]
  rcases tryL_spec (f := stepF g all n l) (N := all.length) ((all[l.length]?).getD []) with ⟨h1, _⟩|⟨_, c, _, _, h3, h4⟩
  ·exact .inr h1
  ·rw [h4]; exact .inl h3
theorem srch_sound {g : Int} {all : List (List Pt2)} : ∀ {n : Nat} {l : List Pt2}, LegL g all l -> l.length + n = all.length -> (srch g all n l).length = all.length -> LegL g all (srch g all n l) /\ ∃ t, srch g all n l = l ++ t
 | 0, l, hl, _, _ => ⟨hl, [], by rw [srch, List.append_nil]⟩
 | n + 1, l, hl, hn, hlen => by
  rw [srch_eq] at hlen ⊢
  rcases tryL_spec (f := stepF g all n l) (N := all.length) ((all[l.length]?).getD []) with ⟨h1, _⟩|⟨i, c, h1, _, h3, h4⟩
  ·rw [h1] at hlen
   simp at hlen
   omega
  ·rw [h4]
   have hpos : 0 < all.length := by omega
   unfold stepF at h3 ⊢
   by_cases hf : freeK g l c l.length = true
   ·rw [if_pos hf] at h3 ⊢
    obtain ⟨g1, t, g2⟩ := srch_sound (hl.snoc (by omega) (List.mem_of_getElem? h1) hf) (by rw [List.length_append, List.length_singleton]; omega) h3
    exact ⟨g1, c :: t, by rw [g2, List.append_assoc]; rfl⟩
   ·rw [if_neg hf] at h3
    simp at h3
    omega
theorem take_snoc {α : Type} {m : List α} {i : Nat} {c : α} (h : m[i]? = some c) : m.take (i + 1) = m.take i ++ [c] := by
 obtain ⟨hi, rfl⟩ := List.getElem?_eq_some_iff.1 h
 rw [List.take_add_one, h]
 rfl
theorem free_of {g : Int} {all : List (List Pt2)} {m : List Pt2} {i : Nat} {c : Pt2} (hm : LegL g all m) (hi : m[i]? = some c) : freeK g (m.take i) c (m.take i).length = true := by
 have hl : (m.take i).length = i := by rw [List.length_take]; have := (List.getElem?_eq_some_iff.1 hi).1; omega
 refine freeK_iff.2 fun j b hb => ?_
 rw [hl]
 have hj := (List.getElem?_eq_some_iff.1 hb).1
 rw [hl] at hj
 rw [List.getElem?_take, if_pos hj] at hb
 exact hm.ap i j c b hj hi hb
theorem srch_complete {g : Int} {all : List (List Pt2)} {m : List Pt2} (hm : LegL g all m) (hlen : m.length = all.length) : ∀ {n i : Nat}, i + n = all.length -> (srch g all n (m.take i)).length = all.length
 | 0, i, h => by rw [srch, List.length_take]; omega
 | n + 1, i, h => by
  obtain ⟨c, hc⟩ : ∃ c, m[i]? = some c := ⟨_, List.getElem?_eq_getElem oM⟩
  have hl : (m.take i).length = i := by rw [List.length_take]; omega
  have ih := srch_complete hm hlen (n := n) (i := i + 1) oM
  rw [take_snoc hc] at ih
  rw [srch_eq, hl]
  have hs : (stepF g all n (m.take i) c).length = all.length := by rw [stepF, if_pos (free_of hm hc)]; exact ih
  rcases tryL_spec (f := stepF g all n (m.take i)) (N := all.length) ((all[i]?).getD []) with ⟨_, h2⟩|⟨_, _, _, _, h3, h4⟩
  ·exact absurd hs (h2 c (hm.ch i c hc))
  ·rw [h4]; exact h3
def agreeB (B : Nat) (L l : List Pt2) : Prop := ∀ j, j < l.length -> B.testBit j = true -> L[j]? = l[j]?
def FailS (g : Int) (all : List (List Pt2)) (k B : Nat) (l : List Pt2) : Prop := ∀ L, LegL g all L -> k < L.length -> ¬ agreeB B L l
def FailC (g : Int) (all : List (List Pt2)) (k B : Nat) (l : List Pt2) (cs : List Pt2) : Prop := ∀ L, LegL g all L -> k < L.length -> agreeB B L l -> ∀ q ∈ cs, L[l.length]? ≠ some q
theorem FailC.nil {g : Int} {all : List (List Pt2)} {k B : Nat} {l : List Pt2} : FailC g all k B l [] := fun _ _ _ _ q hq => by cases hq
theorem FailC.end {g : Int} {all : List (List Pt2)} {k B : Nat} {l C : List Pt2} (hC : all[l.length]? = some C) (hk : l.length <= k) (h : FailC g all k B l C) : FailS g all k B l := fun L hL hlen ha => by
 obtain ⟨q, hq⟩ : ∃ q, L[l.length]? = some q := ⟨_, List.getElem?_eq_getElem oM⟩
 have := hL.ch _ q hq
 rw [hC] at this
 exact h L hL hlen ha q this hq
theorem FailC.mono {g : Int} {all : List (List Pt2)} {k k' B B' : Nat} {l C : List Pt2} (h : FailC g all k B l C) (hk : k <= k') (hB : ∀ j, j < l.length -> B.testBit j = true -> B'.testBit j = true) : FailC g all k' B' l C := fun L hL hlen ha => h L hL oM fun j hj hb => ha j hj (hB j hj hb)
theorem FailC.clash {g : Int} {all : List (List Pt2)} {k B j : Nat} {l C : List Pt2} {c b : Pt2} (h : FailC g all k B l C) (hb : l[j]? = some b) (hB : B.testBit j = true) (hc : clashP g j b l.length c = true) : FailC g all k B l (C ++ [c]) := fun L hL hlen ha q hq e => by
 rcases List.mem_append.1 hq with hq|hq
 ·exact h L hL hlen ha q hq e
 ·rw [List.mem_singleton] at hq
  subst hq
  have hj := (List.getElem?_eq_some_iff.1 hb).1
  have h1 := ha j hj hB
  rw [hb] at h1
  rw [clashP_comm, hL.ap l.length j q b hj e h1] at hc
  cases hc
theorem FailC.fail {g : Int} {all : List (List Pt2)} {k B B' : Nat} {l C : List Pt2} {c : Pt2} (h : FailC g all k B l C) (hs : FailS g all k B' (l ++ [c])) (hB : ∀ j, j < l.length -> B'.testBit j = true -> B.testBit j = true) : FailC g all k B l (C ++ [c]) := fun L hL hlen ha q hq e => by
 rcases List.mem_append.1 hq with hq|hq
 ·exact h L hL hlen ha q hq e
 ·rw [List.mem_singleton] at hq
  subst hq
  refine hs L hL hlen fun j hj hb => ?_
  by_cases hjl : j < l.length
  ·rw [List.getElem?_append_left hjl]; exact ha j hjl (hB j hjl hb)
  ·have : j = l.length := by rw [List.length_append, List.length_singleton] at hj; omega
   subst this
   rw [e]; simp
theorem FailS.drop {g : Int} {all : List (List Pt2)} {k B : Nat} {l : List Pt2} {c : Pt2} (hs : FailS g all k B (l ++ [c])) (hB : B.testBit l.length = false) : FailS g all k B l := fun L hL hlen ha => hs L hL hlen fun j hj hb => by
 by_cases hjl : j < l.length
 ·rw [List.getElem?_append_left hjl]; exact ha j hjl hb
 ·have : j = l.length := by rw [List.length_append, List.length_singleton] at hj; omega
  subst this
  rw [hB] at hb
  cases hb
theorem FailC.step {g : Int} {all : List (List Pt2)} {k B n : Nat} {l C : List Pt2} (hl : LegL g all l) (hn : l.length + (n + 1) = all.length) (hk : k < all.length) (h : FailC g all k B l C) (hC : ∀ c ∈ C, c ∈ (all[l.length]?).getD []) : ∀ c ∈ C, (stepF g all n l c).length ≠ all.length := fun c hc hlen => by
 unfold stepF at hlen
 by_cases hf : freeK g l c l.length = true
 ·rw [if_pos hf] at hlen
  obtain ⟨g1, t, g2⟩ := srch_sound (hl.snoc (by omega) (hC c hc) hf) (by rw [List.length_append, List.length_singleton]; omega) hlen
  refine h _ g1 oM (fun j hj _ => ?_) c hc ?_
  ·rw [g2, List.append_assoc, List.getElem?_append_left hj]
  ·rw [g2, List.append_assoc]; simp
 ·rw [if_neg hf] at hlen
  simp at hlen
  omega
set_option maxHeartbeats 8000000 in
theorem d_legal {p : Pic} {l : List Pt2} (hFi : Fine p) (hF : Few p) (hl : ∀ q ∈ l, Small 1000000 q) : DK 12 [picD p, ptsD l] fun d => d = .bool (validPic p && legalP p l) := by
 refine dfn_ok cp12 rfl GHro fun Z0 lo => ?_
 have hcv := d_apvalid hFi
 by_cases hlen : l.length = p.fs.length
 ·have b1 : ((l.length : Int) != (p.fs.length : Int)) = false := by rw [hlen]; simp
  refine goB ?_; intros
  refine dw_cf rfl rfl hcv ?_
  rintro _ rfl
  cases hv : validPic p with
  | false =>
   refine goD ?_; intros
   refine ds_if rfl (fun _ => ?_) (fun h => by cases h)
   refine goD ?_; intros
   exact ds_ret ⟨_, rfl, rfl, rfl⟩
  | true =>
   have hl8 := (validPic_fs hv).1
   have hlp : (true && legalP p l) = (List.range l.length).all (legal1 p l) := by
    rw [legalP, decide_eq_true hlen, legalF, decide_eq_true (by omega)]
    simp only [Bool.true_and]
   rw [hlp]
   refine goD ?_; intros
   refine ds_if rfl (fun h => by cases h) (fun _ => ?_)
   refine goD ?_; intros
   refine dw_cf rfl rfl (d_survey hv) ?_
   rintro _ ⟨A, hA, rfl⟩
   refine goD ?_; intros
   refine ds_loop (fun m E S nk => ∃ i : Nat, i + m = l.length /\ (∀ j, j < i -> legal1 p l j = true) /\ E = [(1, ptsD l), (5, siteV p A), (22, ptsD l), (23, .int l.length), (24, .int i)] /\ S = [] /\ nk = 0)
    ⟨l.length, _, _, _, [], ?wk, 0, oM, fun j hj => oM, rfl, rfl, rfl⟩ ?_
   case wk => exact wkA
   rintro m E S nk ⟨i, hi, hok, rfl, rfl, rfl⟩
   refine goD ?_; intros
   refine ds_if rfl (fun hi2 => ?_) (fun hi2 => ?_)
   ·have hi2 : i < l.length := by have := of_decide_eq_true hi2; omega
    obtain ⟨q, hq⟩ : ∃ r, l[i]? = some r := ⟨_, List.getElem?_eq_getElem hi2⟩
    have e1 := ptF_at hq
    have hqs := hl q (List.mem_of_getElem? hq)
    have hqa := at0_of hq
    refine goD ?_; intros
    refine dw_cf rfl rfl (d_free (i := i) (q := q) hv hF hA oM hqs) ?_
    rintro _ rfl
    refine goD ?_; intros
    refine ds_if rfl (fun hf => ?_) (fun hf => ?_)
    ·have hf : fitsP p i q = false := by simpa using hf
     refine goD ?_; intros
     refine ds_ret ⟨_, rfl, rfl, ?_⟩
     rw [range_bad hi2 (by rw [legal1, hqa, hf, Bool.false_and])]
    ·have hf : fitsP p i q = true := by simpa using hf
     refine goD ?_; intros
     refine ds_frzP 0 (fs := ptF q) rfl ?_
     refine ds_loop (fun m E S nk => ∃ k : Nat, k + m = i /\ (∀ j, j < k -> clashP p.gap i q j (at0 l j) = false) /\ E = [(1, ptsD l), (5, siteV p A), (22, ptsD l), (23, .int l.length), (24, .int i), (6, .int i), (7, .one (.fptr (ptF q))), (34, .int i), (35, .int k)] /\ S = [] /\ nk = 0)
      ⟨i, _, _, _, [], ?wk2, 0, oM, fun j hj => oM, rfl, rfl, rfl⟩ ?_
     case wk2 => exact wkA
     rintro m2 E S nk ⟨k, hk, hok2, rfl, rfl, rfl⟩
     refine goD ?_; intros
     refine ds_if rfl (fun hk2 => ?_) (fun hk2 => ?_)
     ·have hk2 : k < i := by have := of_decide_eq_true hk2; omega
      obtain ⟨b, hb⟩ : ∃ r, l[k]? = some r := ⟨_, List.getElem?_eq_getElem oM⟩
      have e2 := ptF_at hb
      have hbs := hl b (List.mem_of_getElem? hb)
      have hba := at0_of hb
      have hcl := d_clash (p := p) (A := A) (i := k) (k := i) oM oM hbs hqs
      rw [clashP_comm] at hcl
      refine goD ?_; intros
      refine dw_cf rfl rfl hcl ?_
      rintro _ rfl
      refine goD ?_; intros
      refine ds_if rfl (fun hd => ?_) (fun hd => ?_)
      ·refine goD ?_; intros
       refine ds_ret ⟨_, rfl, rfl, ?_⟩
       rw [range_bad hi2 (by rw [legal1, hqa, range_bad hk2 (by rw [hba, hd]; rfl), Bool.and_false])]
      ·refine goD ?_; intros
       refine ⟨m2 - 1, oM, _, _, _, [], ?wk3, k + 1, oM, ?hno, rfl, rfl, rfl⟩
       case hno =>
        intro j hj
        by_cases hjk : j = k
        ·subst hjk; rw [hba]; exact hd
        ·exact hok2 j oM
       case wk3 => exact wkA
     ·have hk2 : k = i := by have := of_decide_eq_false hk2; omega
      subst hk2
      refine goD ?_; intros
      refine ⟨m - 1, oM, _, _, _, [], ?wk4, k + 1, oM, ?hno2, rfl, rfl, rfl⟩
      case hno2 =>
       intro j hj
       by_cases hjk : j = k
       ·subst hjk
        rw [legal1, hqa, hf, Bool.true_and]
        exact range_good fun x hx => by rw [hok2 x hx]; rfl
       ·exact hok j oM
      case wk4 => exact wkA
   ·have hi2 : i = l.length := by have := of_decide_eq_false hi2; omega
    subst hi2
    refine goD ?_; intros
    refine ds_ret ⟨_, rfl, rfl, ?_⟩
    rw [range_good hok]
 ·have b1 : ((l.length : Int) != (p.fs.length : Int)) = true := by
   have : ¬ (l.length : Int) = p.fs.length := by omega
   simpa using this
  refine goB ?_; intros
  refine ds_if rfl (fun _ => ?_) (fun h => by cases h)
  refine goB ?_; intros
  refine ds_ret ⟨_, rfl, rfl, ?_⟩
  rw [legalP, decide_eq_false hlen, Bool.false_and, Bool.and_false]
abbrev DKXa (f : FuncId) (a : Nat) (ds : List DV) (S : Bx) (nk : Nat) (R : DV -> Bx -> Nat -> Prop) : Prop := ∀ Z0 lo anc β0 H1, anc <= a -> DXa (parK Z0 lo anc β0 H1) a f ds S nk R
theorem dxka_ok {f : FuncId} {a : Nat} {sf : SFn} (hf : cpFn Tryd.prog 1 f = some sf) {ds : List DV} {S : Bx} {nk : Nat} {R : DV -> Bx -> Nat -> Prop} (hn : Nat.ble ds.length sf.n = true) (hank : a <= nk)
  (h : ∀ Z β H lo, DPS (parK Z lo a β H) sf.n sf.code (retO (parK Z lo a β H) sf.res R) (argsD ds 0) S nk) : DKXa f a ds S nk R := fun Z0 lo anc β0 H1 ha => dxa_ok (p := parK Z0 lo anc β0 H1) hf hn ha hank fun Z β H => h Z β H lo
theorem alls_succ (p : Pic) (i : Nat) : alls p (i + 1) = alls p i ++ [candP p i] := by simp [alls, List.range_succ]
theorem alls_len (p : Pic) (i : Nat) : (alls p i).length = i := by simp [alls]
theorem uwrap {n : Int} (h1 : 0 <= n) (h2 : n < 18446744073709551616) : IntKind.u64.wrap n = n := by
 simp [IntKind.wrap, IntKind.signed, IntKind.bits]
 omega
theorem bv_nat {a : Nat} (ha : a < 256) : (BitVec.ofInt 64 (a : Int)).toNat = a := by
 rw [BitVec.ofInt_natCast, BitVec.toNat_ofNat, Nat.mod_eq_of_lt (by omega)]
theorem pow_lt8 {k : Nat} (hk : k < 8) : 2 ^ k < 256 := Nat.pow_lt_pow_right oM hk
theorem or_lt8 {a b : Nat} (ha : a < 256) (hb : b < 256) : a ||| b < 256 := Nat.or_lt_two_pow (n := 8) ha hb
theorem a_shl {k : Nat} (hk : k < 8) : aBin .shl .u64 1 .i64 (k : Int) = some (.int .u64 ((2 ^ k : Nat) : Int)) := by
 have h1 : ¬ (k : Int) < 0 := by omega
 have h2 := pow_lt8 hk
 have h3 : min (k : Int).toNat IntKind.u64.bits = k := by
  show min k 64 = k
  omega
 simp only [aBin, if_neg h1, h3]
 rw [Int.one_mul, show (2 : Int) ^ k = ((2 ^ k : Nat) : Int) by push_cast; rfl]
 generalize 2 ^ k = m at h2 ⊢
 rw [uwrap (by omega) (by omega)]
theorem a_or {a b : Nat} (ha : a < 256) (hb : b < 256) : aBin .or .u64 (a : Int) .u64 (b : Int) = some (.int .u64 ((a ||| b : Nat) : Int)) := by
 have h := or_lt8 ha hb
 simp only [aBin, ne_eq, not_true_eq_false, if_false, reduceIte]
 show some (C.int .u64 (IntKind.u64.wrap ((BitVec.ofInt 64 (a : Int) ||| BitVec.ofInt 64 (b : Int)).toNat : Nat))) = _
 rw [BitVec.toNat_or, bv_nat ha, bv_nat hb, uwrap (by omega) (by omega)]
theorem a_shr {a k : Nat} (hk : k < 8) : aBin .shr .u64 (a : Int) .i64 (k : Int) = some (.int .u64 ((a / 2 ^ k : Nat) : Int)) := by
 have h1 : ¬ (k : Int) < 0 := by omega
 have h3 : min (k : Int).toNat IntKind.u64.bits = k := by
  show min k 64 = k
  omega
 simp only [aBin, if_neg h1, h3]
 rw [Int.fdiv_eq_ediv_of_nonneg _ (Int.le_of_lt (Int.pow_pos (by omega))), show (2 : Int) ^ k = ((2 ^ k : Nat) : Int) by push_cast; rfl]
 rfl
theorem a_and1 {a : Nat} (ha : a < 256) : aBin .and .u64 (a : Int) .u64 1 = some (.int .u64 ((a % 2 : Nat) : Int)) := by
 simp only [aBin, ne_eq, not_true_eq_false, if_false, reduceIte]
 show some (C.int .u64 (IntKind.u64.wrap ((BitVec.ofInt 64 (a : Int) &&& BitVec.ofInt 64 ((1 : Nat) : Int)).toNat : Nat))) = _
 rw [BitVec.toNat_and, bv_nat ha, bv_nat (by omega), Nat.and_one_is_mod, uwrap (by omega) (by omega)]
def dropB (W i : Nat) : Nat := (BitVec.ofInt 64 (W : Int) &&& ~~~ BitVec.ofInt 64 ((2 ^ i : Nat) : Int)).toNat
theorem dropB_lt {W i : Nat} (hW : W < 256) : dropB W i < 256 := by
 unfold dropB
 rw [BitVec.toNat_and, bv_nat hW]
 exact Nat.lt_of_le_of_lt Nat.and_le_left hW
theorem dropB_bit {W i j : Nat} (hW : W < 256) (hi : i < 8) (hj : j < 8) (hne : j ≠ i) (h : W.testBit j = true) : (dropB W i).testBit j = true := by
 unfold dropB
 rw [BitVec.toNat_and, bv_nat hW, Nat.testBit_and, h, Bool.true_and, BitVec.testBit_toNat, BitVec.getLsbD_not, <- BitVec.testBit_toNat, bv_nat (pow_lt8 hi), Nat.testBit_two_pow_of_ne (fun e => hne e.symm)]
 simp
 omega
theorem a_andNot {W i : Nat} (hW : W < 256) : aBin .andNot .u64 (W : Int) .u64 ((2 ^ i : Nat) : Int) = some (.int .u64 (dropB W i : Int)) := by
 have h := dropB_lt (i := i) hW
 simp only [aBin, ne_eq, not_true_eq_false, if_false, reduceIte]
 show some (C.int .u64 (IntKind.u64.wrap (dropB W i : Nat))) = _
 rw [uwrap (by omega) (by omega)]
theorem bit0 {W i : Nat} : (((W / 2 ^ i % 2 : Nat) : Int) == 0) = !W.testBit i := by
 rw [Nat.testBit_eq_decide_div_mod_eq]
 rcases Nat.mod_two_eq_zero_or_one (W / 2 ^ i) with h|h <;> rw [h] <;> rfl
theorem v_shl {k : Nat} (hk : k < 8) : IntKind.u64.wrap (1 * 2 ^ min (k : Int).toNat IntKind.u64.bits) = ((2 ^ k : Nat) : Int) := by
 have h := a_shl hk
 simp only [aBin, if_neg (show ¬ (k : Int) < 0 by omega), Option.some.injEq, C.int.injEq, true_and] at h
 exact h
theorem v_or {a b : Nat} (ha : a < 256) (hb : b < 256) : IntKind.u64.wrap ((BitVec.ofInt IntKind.u64.bits (a : Int) ||| BitVec.ofInt IntKind.u64.bits (b : Int)).toNat : Nat) = ((a ||| b : Nat) : Int) := by
 have h := a_or ha hb
 simp only [aBin, ne_eq, not_true_eq_false, if_false, reduceIte, Option.some.injEq, C.int.injEq, true_and] at h
 exact h
theorem v_shr {a k : Nat} (hk : k < 8) : (a : Int).fdiv (2 ^ min (k : Int).toNat IntKind.u64.bits) = ((a / 2 ^ k : Nat) : Int) := by
 have h := a_shr (a := a) hk
 simp only [aBin, if_neg (show ¬ (k : Int) < 0 by omega), Option.some.injEq, C.int.injEq, true_and] at h
 exact h
theorem v_and1 {a : Nat} (ha : a < 256) : IntKind.u64.wrap ((BitVec.ofInt IntKind.u64.bits (a : Int) &&& BitVec.ofInt IntKind.u64.bits 1).toNat : Nat) = ((a % 2 : Nat) : Int) := by
 have h := a_and1 ha
 simp only [aBin, ne_eq, not_true_eq_false, if_false, reduceIte, Option.some.injEq, C.int.injEq, true_and] at h
 exact h
theorem v_andNot {W i : Nat} (hW : W < 256) : IntKind.u64.wrap ((BitVec.ofInt IntKind.u64.bits (W : Int) &&& ~~~ BitVec.ofInt IntKind.u64.bits ((2 ^ i : Nat) : Int)).toNat : Nat) = ((dropB W i : Nat) : Int) := by
 have h := a_andNot (i := i) hW
 simp only [aBin, ne_eq, not_true_eq_false, if_false, reduceIte, Option.some.injEq, C.int.injEq, true_and] at h
 exact h
abbrev caps5 : List (Nat × Nat) := [(0, 0), (1, 0), (2, 0), (3, 0), (4, 0)]
abbrev envS (p : Pic) (A : List Bool) (all : List (List Pt2)) (k i : Nat) (D : List FD) : Bx := [(0, .cells [.own 5 0 i 2]), (1, .cells [.f (.c (.int .i64 k))]), (2, .cells [.f (.sl 1 all.length (all.map ptsF))]), (3, .cells [.fptr (siteF p (ptsOf p).length ((ptsOf p).map rowPt) A)]), (4, .cells [.fn 20 caps5]), (5, .data D)]
def AttL (p : Pic) (all : List (List Pt2)) (m : Nat) : Prop := ∃ L, LegL p.gap all L /\ L.length = m
abbrev wordD (B : Nat) : DV := .one (.f (.c (.int .u64 (B : Int))))
inductive TryR (p : Pic) (A : List Bool) (all : List (List Pt2)) (n : Nat) (l : List Pt2) (mst : Nat) : DV -> Bx -> Nat -> Prop
 | found (k : Nat) (D : List FD) (hl : (srch p.gap all n l).length = all.length) (hD : subL D 0 (all.length * 2) = some ((srch p.gap all n l).flatMap ptF)) : TryR p A all n l mst (.tup [.bool true, wordD 0]) (envS p A all k all.length D) 6
 | fail (k B : Nat) (D : List FD) (hB : B < 256) (h1 : mst <= k) (h2 : l.length <= k) (h3 : k < all.length) (ha : AttL p all k) (hF : FailS p.gap all k B l) (hD : subL D 0 (l.length * 2) = some (l.flatMap ptF)) : TryR p A all n l mst (.tup [.bool false, wordD B]) (envS p A all k l.length D) 6
theorem subL_pre {α : Type} {D q r : List α} {n i m : Nat} (h : subL D 0 n = some q) (h2 : subL q i m = some r) : subL D i m = some r := by
 obtain ⟨h1, rfl⟩ := subL_some h
 obtain ⟨h3, rfl⟩ := subL_some h2
 rw [List.drop_zero] at *
 rw [List.length_take] at h3
 rw [subL_of (by omega), List.drop_take, List.take_take]
 congr 2
 omega
set_option maxHeartbeats 16000000 in
theorem x_try {p : Pic} {A : List Bool} {all : List (List Pt2)} (ha8 : 1 <= all.length /\ all.length <= 8) (hs : ∀ c ∈ all, (∀ q ∈ c, Small 1000000 q) /\ c.length < 1000000) : ∀ (n : Nat) {l : List Pt2} {i mst : Nat} {D : List FD}, l.length = i -> i + n = all.length -> LegL p.gap all l -> mst < all.length -> AttL p all mst -> subL D 0 (i * 2) = some (l.flatMap ptF) ->
  DKXa 20 5 [.one (.ptr 0 0), .one (.ptr 1 0), .one (.ptr 2 0), .one (.ptr 3 0), .one (.ptr 4 0)] (envS p A all mst i D) 6 (TryR p A all n l mst)
 | 0, l, i, mst, D, hil, hl, hL, hm, hat, hD => by
  subst hil
  refine dxka_ok cp20 rfl oM fun Z β H lo => ?_
  obtain ⟨m1, hm1⟩ : ∃ m1 : Nat, max (mst : Int) (l.length : Int) = (m1 : Int) := ⟨max mst l.length, oM⟩
  have b1 : ((l.length : Int) == (all.length : Int)) = true := by
   have : l.length = all.length := by omega
   rw [this]; simp
  refine goB ?_; intros
  refine ds_scope ?_
  refine goB ?_; intros
  rw [hm1]
  refine ds_if rfl (fun _ => ?_) (fun h => by cases h)
  refine goB ?_; intros
  have hla : l.length = all.length := by omega
  have hr := TryR.found (p := p) (A := A) (all := all) (n := 0) (l := l) (mst := mst) m1 D hla (by rw [<- hla]; exact hD)
  rw [<- hla] at hr
  exact ds_ret ⟨_, rfl, rfl, _, SubA.refl _, hr⟩
 | n + 1, l, i, mst, D, hil, hl, hL, hm, hat, hD => by
  have hls : ∀ q ∈ l, Small 1000000 q := fun q hq => by
   obtain ⟨j, hj⟩ := List.getElem?_of_mem hq
   have h1 := hL.ch j q hj
   cases hc : all[j]? with
   | none => rw [hc] at h1; cases h1
   | some c => rw [hc] at h1; exact (hs c (List.mem_of_getElem? hc)).1 q h1
  have ih := fun (c : Pt2) {k : Nat} {D : List FD} (hf : freeK p.gap l c l.length = true) (hc : c ∈ (all[l.length]?).getD []) => x_try (p := p) (A := A) ha8 hs n (l := l ++ [c]) (i := i + 1) (mst := k) (D := D) (by rw [List.length_append, List.length_singleton]; omega) (by omega) (hL.snoc (by omega) hc hf)
  subst hil
  refine dxka_ok cp20 rfl oM fun Z β H lo => ?_
  obtain ⟨m1, hm1⟩ : ∃ m1 : Nat, max (mst : Int) (l.length : Int) = (m1 : Int) := ⟨max mst l.length, oM⟩
  have hat1 : AttL p all m1 := by
   by_cases h : mst <= l.length
   ·rw [show m1 = l.length by omega]; exact ⟨l, hL, rfl⟩
   ·rw [show m1 = mst by omega]; exact hat
  have b1 : ((l.length : Int) == (all.length : Int)) = false := by
   have : ¬ (l.length : Int) = all.length := by omega
   simpa using this
  obtain ⟨C, hC⟩ : ∃ r, all[l.length]? = some r := ⟨_, List.getElem?_eq_getElem oM⟩
  have hCs := hs C (List.mem_of_getElem? hC)
  have hCg : (all[l.length]?).getD [] = C := by rw [hC]; rfl
  have e0 : subL (all.map ptsF) (l.length * 1) 1 = some [ptsF C] := rowPt_at hC
  have hlf := ptF_len l
  have hi8 : l.length < 8 := by omega
  refine goB ?_; intros
  refine ds_scope ?_
  refine goB ?_; intros
  rw [hm1]
  refine ds_if rfl (fun h => by cases h) (fun _ => ?_)
  clear b1
  refine goD ?_; intros
  refine ds_loop (fun m E S nk => ∃ (j B k : Nat) (D : List FD), j + m = C.length /\ B < 256 /\ mst <= k /\ l.length <= k /\ k < all.length /\ AttL p all k /\ FailC p.gap all k B l (C.take j) /\ subL D 0 (l.length * 2) = some (l.flatMap ptF) /\ E = [(0, .one (.ptr 0 0)), (1, .one (.ptr 1 0)), (2, .one (.ptr 2 0)), (3, .one (.ptr 3 0)), (4, .one (.ptr 4 0)), (7, .int l.length), (8, wordD B), (27, ptsD C), (28, .int C.length), (29, .int j)] /\ S = envS p A all k l.length D /\ nk = 6)
   ⟨C.length, _, _, _, [], ?wk, 0, 0, m1, D, oM, oM, oM, oM, oM, hat1, FailC.nil, hD, rfl, rfl, rfl⟩ ?_
  case wk => exact ⟨(by repeat (first|exact trivial|refine ⟨by first|rfl|exact cgI oM oM, rfl, ?_⟩)), ⟨rfl, rfl, rfl, rfl, rfl, rfl, rfl, rfl, rfl, rfl, rfl, rfl, rfl, rfl, rfl, rfl, rfl, rfl, trivial⟩, rfl, rfl⟩
  clear hD hat1 hm1 hat
  clear D m1
  rintro m E S nk ⟨j, B, k, D, hj, hB, hmk, hlk, hkN, hat, hF, hD, rfl, rfl, rfl⟩
  refine goD ?_; intros
  refine ds_if rfl (fun hj2 => ?_) (fun hj2 => ?_)
  ·have hj2 : j < C.length := by have := of_decide_eq_true hj2; omega
   obtain ⟨q, hq⟩ : ∃ r, C[j]? = some r := ⟨_, List.getElem?_eq_getElem hj2⟩
   have e1 := ptF_at hq
   have hqs := hCs.1 q (List.mem_of_getElem? hq)
   have htk : C.take (j + 1) = C.take j ++ [q] := take_snoc hq
   refine goD ?_; intros
   refine ds_frzP 6 (fs := ptF q) rfl ?_
   refine ds_loop (fun m E S nk => ∃ k2 : Nat, k2 + m = l.length /\ (∀ (j : Nat) b, j < k2 -> l[j]? = some b -> clashP p.gap l.length q j b = false) /\ E = [(0, .one (.ptr 0 0)), (1, .one (.ptr 1 0)), (2, .one (.ptr 2 0)), (3, .one (.ptr 3 0)), (4, .one (.ptr 4 0)), (7, .int l.length), (8, wordD B), (27, ptsD C), (28, .int C.length), (29, .int j), (10, .one (.fptr (ptF q))), (33, .one (.own 5 0 l.length 2)), (34, .int l.length), (35, .int k2)] /\ S = envS p A all k l.length D /\ nk = 6)
    ⟨l.length, _, _, _, [], ?wk2, 0, oM, fun j b hj => oM, rfl, rfl, rfl⟩ ?_
   case wk2 => exact ⟨(by repeat (first|exact trivial|refine ⟨by first|rfl|exact cgI oM oM, rfl, ?_⟩)), ⟨rfl, rfl, rfl, rfl, rfl, rfl, rfl, rfl, rfl, rfl, rfl, rfl, rfl, rfl, rfl, rfl, rfl, rfl, trivial⟩, rfl, rfl⟩
   rintro m2 E S nk ⟨k2, hk2m, hok, rfl, rfl, rfl⟩
   refine goD ?_; intros
   refine ds_if rfl (fun hk2 => ?_) (fun hk2 => ?_)
   ·have hk2 : k2 < l.length := by have := of_decide_eq_true hk2; omega
    obtain ⟨b, hb⟩ : ∃ r, l[k2]? = some r := ⟨_, List.getElem?_eq_getElem hk2⟩
    have hbs := hls b (List.mem_of_getElem? hb)
    have e2 : subL D ((k2 : Int).toNat * 2) 2 = some (ptF b) := subL_pre hD (ptF_at hb)
    have hcl := d_clash (p := p) (A := A) (i := k2) (k := l.length) oM oM hbs hqs
    refine goD ?_; intros
    refine dw_cf rfl rfl hcl ?_
    rintro _ rfl
    refine goD ?_; intros
    refine ds_if rfl (fun hd => ?_) (fun hd => ?_)
    ·refine goD ?_; intros
     rw [v_shl (k := k2) (by omega), v_or hB (pow_lt8 (by omega))]
     refine ⟨m - 1, oM, _, _, _, [], ?wk3, j + 1, B ||| 2 ^ k2, k, D, oM, or_lt8 hB (pow_lt8 oM), hmk, hlk, hkN, hat, ?_, hD, rfl, rfl, rfl⟩
     case wk3 => exact ⟨(by repeat (first|exact trivial|refine ⟨by first|rfl|exact cgI oM oM, rfl, ?_⟩)), ⟨rfl, rfl, rfl, rfl, rfl, rfl, rfl, rfl, rfl, rfl, rfl, rfl, rfl, rfl, rfl, rfl, rfl, rfl, trivial⟩, rfl, rfl⟩
     rw [htk]
     refine FailC.clash (j := k2) (hF.mono (Nat.le_refl _) fun x _ hx => ?_) hb ?_ hd
     ·rw [Nat.testBit_or, hx, Bool.true_or]
     ·rw [Nat.testBit_or, Nat.testBit_two_pow_self, Bool.or_true]
    ·refine goD ?_; intros
     refine ⟨m2 - 1, oM, _, _, _, [], ?wk4, k2 + 1, oM, fun x b' hx hb' => ?_, rfl, rfl, rfl⟩
     case wk4 => exact ⟨(by repeat (first|exact trivial|refine ⟨by first|rfl|exact cgI oM oM, rfl, ?_⟩)), ⟨rfl, rfl, rfl, rfl, rfl, rfl, rfl, rfl, rfl, rfl, rfl, rfl, rfl, rfl, rfl, rfl, rfl, rfl, trivial⟩, rfl, rfl⟩
     by_cases hxk : x = k2
     ·subst hxk
      rw [hb] at hb'
      obtain rfl := Option.some.inj hb'
      rw [clashP_comm]; exact hd
     ·exact hok x b' oM hb'
   ·have hk2 : k2 = l.length := by have := of_decide_eq_false hk2; omega
    subst hk2
    have hfree : freeK p.gap l q l.length = true := freeK_iff.2 fun x b hb => hok x b (List.getElem?_eq_some_iff.1 hb).1 hb
    have hqC : q ∈ (all[l.length]?).getD [] := by rw [hCg]; exact List.mem_of_getElem? hq
    have hstep : stepF p.gap all n l q = srch p.gap all n (l ++ [q]) := by rw [stepF, if_pos hfree]
    have hsnf : (l ++ [q]).flatMap ptF = l.flatMap ptF ++ ptF q := by simp
    have hfl1 : (l.flatMap ptF ++ ptF q).length = (l.length + 1) * 2 := by rw [List.length_append, hlf, show (ptF q).length = 2 from rfl]; omega
    refine goD ?_; intros
    refine dw_app (k := 5) (m := 1) (q := ptF q) rfl rfl rfl hD ⟨rfl, rfl, _, rfl, rfl⟩ oM oM (by decide) rfl ?_
    refine goD ?_; intros
    refine dw_cxva (E0 := [(0, .one (.ptr 0 0)), (1, .one (.ptr 1 0)), (2, .one (.ptr 2 0)), (3, .one (.ptr 3 0)), (4, .one (.ptr 4 0)), (7, .int l.length), (8, wordD B), (27, ptsD C), (28, .int C.length), (29, .int j), (56, .one (.fn 20 caps5))]) (S0 := envS p A all k (l.length + 1) (l.flatMap ptF ++ ptF q)) (n0 := 6) (a := 5) [(5, 7)] ⟨(by repeat (first|exact trivial|refine ⟨by first|rfl|exact cgI (by omega) (by omega), rfl, ?_⟩)), ⟨rfl, rfl, rfl, rfl, rfl, rfl, rfl, rfl, rfl, rfl, rfl, rfl, rfl, rfl, rfl, rfl, rfl, rfl, trivial⟩, rfl, rfl⟩ rfl is20 rfl rfl rfl ⟨(by repeat (first|exact trivial|refine ⟨by first|rfl|exact cgI (by omega) (by omega), rfl, ?_⟩)), trivial, rfl, rfl⟩ (ih q hfree hqC hkN hat (by rw [hsnf]; exact subL_all _ hfl1) _ _ _ _ _ (Nat.le_refl _)) ?_
    intro d S' nk' hR
    cases hR with
    | found k' D' hlen hsub =>
     refine goD ?_; intros
     refine ds_if rfl (fun _ => ?_) (fun h => by cases h)
     refine goD ?_; intros
     have hCf := FailC.step (n := n) hL (by omega) hkN hF fun c hc => by rw [hCg]; exact List.mem_of_mem_take hc
     have hs1 : srch p.gap all (n + 1) l = srch p.gap all n (l ++ [q]) := by
      rw [srch_eq, hCg, tryL_at hq hCf (by rw [hstep]; exact hlen), hstep]
     exact ds_ret ⟨_, rfl, rfl, _, SubA.refl _, .found k' D' (by rw [hs1]; exact hlen) (by rw [hs1]; exact hsub)⟩
    | fail k' W D' hW hk1 hk2 hk3 hat' hFS hsub =>
     rw [List.length_append, List.length_singleton] at hk2 hsub
     rw [List.length_append, List.length_singleton]
     have hD2 : subL D' 0 (l.length * 2) = some (l.flatMap ptF) := by
      refine subL_pre hsub ?_
      rw [hsnf, subL_of (by rw [hfl1]; omega), List.drop_zero, <- hlf, List.take_left]
     have hF2 : FailC p.gap all k' B l (C.take j) := hF.mono hk1 fun _ _ h => h
     refine goD ?_; intros
     refine ds_if rfl (fun h => by cases h) (fun _ => ?_)
     refine goD ?_; intros
     refine dw_slo (o' := 0) (n' := l.length) rfl rfl rfl (Nat.zero_le _) oM oM oM ?_
     refine goD ?_; intros
     rw [v_shr (a := W) (k := l.length) hi8, v_and1 (a := W / 2 ^ l.length) (Nat.lt_of_le_of_lt (Nat.div_le_self _ _) hW), bit0]
     refine ds_if rfl (fun hb => ?_) (fun hb => ?_)
     ·refine goD ?_; intros
      exact ds_ret ⟨_, rfl, rfl, _, SubA.refl _, .fail k' W D' hW (by omega) (by omega) hk3 hat' (hFS.drop (by simpa using hb)) hD2⟩
     ·refine goD ?_; intros
      rw [v_shl (k := l.length) hi8, v_andNot (i := l.length) hW, v_or hB (dropB_lt hW)]
      refine ⟨m - 1, oM, _, _, _, [], ?wk5, j + 1, B ||| dropB W l.length, k', D', oM, or_lt8 hB (dropB_lt hW), oM, oM, hk3, hat', ?_, hD2, rfl, rfl, rfl⟩
      case wk5 => exact ⟨(by repeat (first|exact trivial|refine ⟨by first|rfl|exact cgI oM oM, rfl, ?_⟩)), ⟨rfl, rfl, rfl, rfl, rfl, rfl, rfl, rfl, rfl, rfl, rfl, rfl, rfl, rfl, rfl, rfl, rfl, rfl, trivial⟩, rfl, rfl⟩
      rw [htk]
      refine FailC.fail (hF2.mono (Nat.le_refl _) fun x _ hx => ?_) hFS fun x hx hxW => ?_
      ·rw [Nat.testBit_or, hx, Bool.true_or]
      ·rw [Nat.testBit_or, dropB_bit hW hi8 (by omega) (by omega) hxW, Bool.or_true]
  ·have hj2 : j = C.length := by have := of_decide_eq_false hj2; omega
   subst hj2
   rw [List.take_length] at hF
   refine goD ?_; intros
   exact ds_ret ⟨_, rfl, rfl, _, SubA.refl _, .fail k B D hB hmk hlk hkN hat (hF.end hC hlk) hD⟩
theorem ds_shrink {p : Par} {n : Nat} {Q : Exit -> DEnv -> Bx -> Nat -> Prop} {E : DEnv} {S : Bx} {nk : Nat} {s : SC} (k m : Nat) {l : List FD} (hk : lk S k = some (.data l)) (h : DPS p n s Q E (put k (.data (l.take m)) S) nk) : DPS p n s Q E S nk := .mk fun Z β H F hS hE => by
 refine h.run Z β H F ?_ hE
 refine ⟨hS.wf, hS.lo, hS.z, hS.zlo, hS.zz, hS.glob, hS.nk, hS.bd, fun κ x hκ => ?_, fun κ κ' x x' b N N' hj hj' => ?_, hS.blo, hS.anch, hS.ancn⟩
 ·rw [lk2_put hk rfl] at hκ
  split at hκ
  ·rename_i e
   split at hκ
   ·rename_i e2
    obtain rfl := key_eq e e2
    obtain rfl := Option.some.inj hκ
    obtain ⟨s, hs, hbx⟩ := hS.box (k, 0) _ (lk2_of hk rfl)
    refine ⟨s, hs, ?_⟩
    cases s with
    | nil =>
     have : l.length = 0 := hbx
     show (l.take m).length = 0
     rw [List.length_take, this]; simp
    | blk b N =>
     obtain ⟨h1, h2, h3, cs, rest, h4, h5, h6⟩ := hbx
     refine ⟨h1, h2, h3, cs.take m, cs.drop m ++ rest, ?_, ?_, All2.take h6 m⟩
     ·rw [<- List.append_assoc, List.take_append_drop]; exact h4
     ·rw [<- List.append_assoc, List.take_append_drop]; exact h5
   ·cases hκ
  ·exact hS.box κ x hκ
 ·have f : ∀ i z, lk (put k (.data (l.take m)) S) i = some z -> ∃ z', lk S i = some z' := fun i z hz => by
   rw [lk_put] at hz
   split at hz
   ·cases hl : lk S i with
    | none => rw [hl] at hz; cases hz
    | some q => exact ⟨q, rfl⟩
   ·exact ⟨z, hz⟩
  obtain ⟨z1, e1⟩ := f _ x hj
  obtain ⟨z2, e2⟩ := f _ x' hj'
  exact hS.inj κ κ' z1 z2 b N N' e1 e2
def filT (l : List FD) (k : Nat) : List FD := l.take k ++ List.replicate (l.length - k) (.c .nils)
theorem filT_set {l : List FD} {k : Nat} {x : FD} (h : l[k]? = some x) : (filT l k).set k x = filT l (k + 1) := by
 have hk := (List.getElem?_eq_some_iff.1 h).1
 have h1 : (l.take k).length = k := by rw [List.length_take]; omega
 unfold filT
 rw [List.set_append_right _ _ (by omega), h1, Nat.sub_self, show l.length - k = (l.length - (k + 1)) + 1 by omega, List.replicate_succ, List.set_cons_zero, List.take_add_one, h]
 simp
theorem filT_len {l : List FD} {k : Nat} (h : k <= l.length) : (filT l k).length = l.length := by
 unfold filT
 rw [List.length_append, List.length_take, List.length_replicate]; omega
theorem alls_at {p : Pic} {n j : Nat} (h : j < n) : (alls p n)[j]? = some (candP p j) := by simp [alls, h]
theorem plc_pre {p : Pic} {n j : Nat} {L : List Pt2} (h : LegL p.gap (alls p n) L) (hj : j < L.length) : ¬ (sAt p j).length <= j := by
 have hn := h.le
 rw [alls_len] at hn
 have hl : (L.take (j + 1)).length = j + 1 := by rw [List.length_take]; omega
 have h1 : LegL p.gap (alls p (j + 1)) (L.take (j + 1)) := (h.take (j + 1)).all (by rw [hl, alls_len]; omega) fun i hi => by
  rw [hl] at hi
  rw [alls_at (by omega), alls_at (by omega)]
 have h2 := srch_complete h1 (by rw [hl, alls_len]) (n := j + 1) (i := 0) (by rw [alls_len]; omega)
 rw [alls_len, List.take_zero] at h2
 unfold sAt
 omega
theorem plc_ok {p : Pic} (h1 : 1 <= p.fs.length) (hl : (srch p.gap (alls p p.fs.length) p.fs.length []).length = p.fs.length) : PlcR p (srch p.gap (alls p p.fs.length) p.fs.length [], (p.fs.length : Int), 0) := by
 have hs := (srch_sound (LegL.nil p.gap (alls p p.fs.length)) (n := p.fs.length) (by rw [alls_len]; simp) (by rw [hl, alls_len])).1
 have he : srch p.gap (alls p p.fs.length) p.fs.length [] = sAt p (p.fs.length - 1) := by
  obtain ⟨k, hk⟩ : ∃ k, p.fs.length = k + 1 := ⟨p.fs.length - 1, oM⟩
  rw [hk]
  rfl
 have hok := PlcR.ok (p := p) fun j hj => plc_pre hs oM
 rw [<- he, hl] at hok
 exact hok
theorem plc_bad {p : Pic} {k B : Nat} (hk : k < p.fs.length) (ha : AttL p (alls p p.fs.length) k) (hF : FailS p.gap (alls p p.fs.length) k B []) : PlcR p ([], (k : Int), 150) := by
 obtain ⟨L, hL, hlen⟩ := ha
 refine .bad k hk ?_ fun j hj => plc_pre hL oM
 rcases srch_len (g := p.gap) (all := alls p (k + 1)) (n := k + 1) (l := []) (by rw [alls_len]; simp) with h|h
 ·exfalso
  rw [alls_len] at h
  have hs := (srch_sound (LegL.nil p.gap (alls p (k + 1))) (n := k + 1) (by rw [alls_len]; simp) (by rw [h, alls_len])).1
  have h2 : LegL p.gap (alls p p.fs.length) (srch p.gap (alls p (k + 1)) (k + 1) []) := hs.all (by rw [h, alls_len]; omega) fun i hi => by
   rw [h] at hi
   rw [alls_at (by omega), alls_at (by omega)]
  exact hF _ h2 (by omega) fun j hj => by simp at hj
 ·unfold sAt
  rw [h]
  simp
def plcT (r : Plc) : DV := .tup [ptsD r.1, .int r.2.1, .int r.2.2]
set_option maxHeartbeats 16000000 in
theorem d_lplace {p : Pic} (hFi : Fine p) (hFe : Few p) : DK 14 [picD p] fun d => ∃ r, (validPic p = true -> PlcR p r) /\ (validPic p = false -> r = ([], 0, 150)) /\ d = plcT r := by
 refine dfn_ok cp14 rfl GHro fun Z0 lo => ?_
 have hcv := d_apvalid hFi
 refine ds_seq ?_
 refine ds_ops mix (fun base => ?_)
 refine dw_a rfl ?_
 refine dw_p rfl ?_
 refine dw_p rfl ?_
 refine dw_p rfl ?_
 refine dw_nil ?_
 refine ds_frzP 0 (fs := picF p) rfl ?_
 refine goD ?_; intros
 refine dw_cf rfl rfl hcv ?_
 rintro _ rfl
 cases hv : validPic p with
 | false =>
  refine goD ?_; intros
  refine ds_if rfl (fun _ => ?_) (fun h => by cases h)
  refine goD ?_; intros
  refine ds_nil 2 2 rfl ?_
  exact ds_ret ⟨_, rfl, rfl, ([], 0, 150), fun h => (by cases h), fun _ => rfl, rfl⟩
 | true =>
  have hl8 := (validPic_fs hv).1
  refine goD ?_; intros
  refine ds_if rfl (fun h => by cases h) (fun _ => ?_)
  refine goD ?_; intros
  refine dw_cf rfl rfl (d_survey hv) ?_
  rintro _ ⟨A, hA, rfl⟩
  refine goD ?_; intros
  refine dw_mk (n := p.fs.length) (m := p.fs.length) [.c .nils] rfl rfl ⟨rfl, rfl, trivial⟩ rfl (by decide) (Nat.le_refl _) oM oM ?_
  refine goD ?_; intros
  have hal := alls_len p p.fs.length
  have hml : ((alls p p.fs.length).map ptsF).length = p.fs.length := by rw [List.length_map, hal]
  refine ds_loop (fun m E S nk => ∃ i : Nat, i + m = p.fs.length /\ E = [(5, .one (.ptr 1 0)), (6, .one (.ptr 3 0)), (23, .int p.fs.length), (24, .int i)] /\ S = [(1, .cells [.fptr (siteF p (ptsOf p).length ((ptsOf p).map rowPt) A)]), (2, .data (filT ((alls p p.fs.length).map ptsF) i)), (3, .cells [.own 2 0 p.fs.length 1])] /\ nk = 4)
   ⟨p.fs.length, _, _, _, [], ?wk, 0, oM, rfl, rfl, rfl⟩ ?_
  case wk => exact ⟨(by repeat (first|exact trivial|refine ⟨by first|rfl|exact cgI (by omega) (by omega), rfl, ?_⟩)), ⟨rfl, rfl, rfl, by rw [filT, hml, reps'_one]; rfl, rfl, rfl, rfl, rfl, rfl, trivial⟩, rfl, rfl⟩
  rintro m E S nk ⟨i, hi, rfl, rfl, rfl⟩
  refine goD ?_; intros
  refine ds_if rfl (fun hi2 => ?_) (fun hi2 => ?_)
  ·have hi2 : i < p.fs.length := by have := of_decide_eq_true hi2; omega
   have hx : ((alls p p.fs.length).map ptsF)[i]? = some (ptsF (candP p i)) := by rw [List.getElem?_map, alls_at hi2]; rfl
   have hset := filT_set hx
   refine goD ?_; intros
   refine dw_cf rfl rfl (d_choices hv hFe hA hi2) ?_
   rintro _ rfl
   refine goD ?_; intros
   refine dw_st (k := 2) (o := i) (l := [.f (ptsF (candP p i))]) rfl rfl rfl rfl rfl (show i + 1 <= (filT ((alls p p.fs.length).map ptsF) i).length by rw [filT_len (by omega), hml]; omega) rfl ?_
   rw [show stB (.data (filT ((alls p p.fs.length).map ptsF) i)) i [.f (ptsF (candP p i))] = .data (filT ((alls p p.fs.length).map ptsF) (i + 1)) from congrArg Bk.data hset]
   refine goD ?_; intros
   refine ⟨m - 1, oM, _, _, _, [], ?wk2, i + 1, oM, rfl, rfl, rfl⟩
   case wk2 => exact ⟨(by repeat (first|exact trivial|refine ⟨by first|rfl|exact cgI oM oM, rfl, ?_⟩)), ⟨rfl, rfl, rfl, rfl, rfl, rfl, rfl, rfl, rfl, trivial⟩, rfl, rfl⟩
  ·have hi2 : i = p.fs.length := by have := of_decide_eq_false hi2; omega
   subst hi2
   have hfil : filT ((alls p p.fs.length).map ptsF) p.fs.length = (alls p p.fs.length).map ptsF := by rw [filT, hml, List.take_of_length_le (by omega)]; simp
   rw [hfil]
   have hfl : ((alls p p.fs.length).map ptsF).length = p.fs.length * 1 := by omega
   refine ds_frz 2 rfl okZ okZ ?_
   refine ds_exit ?_
   refine ds_seq ?_
   refine ds_ops mix (fun base => ?_)
   refine dw_a rfl ?_
   refine dw_nil ?_
   refine ds_virtC 4 0 2 rfl rfl ?_
   refine goD ?_; intros
   have htry := x_try (p := p) (A := A) (all := alls p p.fs.length) (by rw [hal]; exact hl8) (fun c hc => by
    obtain ⟨k, hk, rfl⟩ := List.mem_map.1 hc
    exact candP_small hv k) p.fs.length (l := []) (i := 0) (mst := 0) (D := []) rfl (by rw [hal]; omega) (LegL.nil _ _) (by rw [hal]; omega) ⟨[], LegL.nil _ _, rfl⟩ rfl
   refine dw_cxva (E0 := [(8, .one (.ptr 0 0)), (9, .one (.ptr 1 0)), (36, .one (.fn 20 caps5))]) (S0 := envS p A (alls p p.fs.length) 0 0 []) (n0 := 6) (a := 5) [(0, 4), (1, 6), (2, 3), (3, 1), (4, 7), (5, 5)] ⟨(by repeat (first|exact trivial|refine ⟨by first|rfl|exact cgI (by omega) (by omega), rfl, ?_⟩)), ⟨rfl, rfl, rfl, rfl, rfl, rfl, by rw [hal]; rfl, rfl, rfl, rfl, rfl, rfl, rfl, rfl, rfl, rfl, rfl, rfl, trivial⟩, rfl, rfl⟩ rfl is20 rfl rfl rfl ⟨(by repeat (first|exact trivial|refine ⟨by first|rfl|exact cgI (by omega) (by omega), rfl, ?_⟩)), trivial, rfl, rfl⟩ (htry _ _ _ _ _ (Nat.zero_le _)) ?_
   intro d S' nk' hR
   cases hR with
   | found k D hlen hsub =>
    rw [hal] at hlen hsub ⊢
    have hpl := plc_ok hl8.1 hlen
    have hfl2 := ptF_len (srch p.gap (alls p p.fs.length) p.fs.length [])
    rw [hlen] at hfl2
    obtain ⟨hs1, hs2⟩ := subL_some hsub
    rw [List.drop_zero] at hs2
    have hpd : ptsD (srch p.gap (alls p p.fs.length) p.fs.length []) = .one (.f (.sl 2 p.fs.length (D.take (p.fs.length * 2)))) := by rw [ptsD, hlen, hs2]
    have hfl3 : (D.take (p.fs.length * 2)).length = p.fs.length * 2 := by rw [<- hs2]; exact hfl2
    refine goD ?_; intros
    refine ds_if rfl (fun h => by cases h) (fun _ => ?_)
    refine goD ?_; intros
    refine ds_keep (SubA.cons (k := 2) rfl (SubA.cons (k := 3) rfl (SubA.cons (k := 4) rfl (SubA.nil _)))) (SubA.cons (k := 5) rfl (SubA.nil _)) ?_
    refine ds_shrink 5 (p.fs.length * 2) rfl ?_
    refine ds_frz 5 rfl okZ okZ ?_
    refine ds_ret ⟨_, rfl, rfl, _, fun _ => hpl, fun h => (by cases h), ?_⟩
    rw [plcT, hpd]
    rfl
   | fail k B D hB h1 h2 h3 ha hF hD =>
    rw [hal] at h3
    have hpl := plc_bad h3 ha hF
    refine goD ?_; intros
    refine ds_if rfl (fun _ => ?_) (fun h => by cases h)
    refine goD ?_; intros
    refine ds_nil 2 2 rfl ?_
    exact ds_ret ⟨_, rfl, rfl, _, fun _ => hpl, fun h => (by cases h), rfl⟩
def isB (n : Int) : Prop := 0 <= n /\ n < 256
theorem few_one {f : Ft} {q : Pt2} (h1 : f.kind = 1) (h2 : f.pts = [q]) : (pointsF f).length <= 256 := by
 unfold pointsF
 rw [if_pos h1, h2]
 exact Nat.le_add_left 1 255
theorem sub_one {m : List FD} {j : Nat} {x : FD} (h : m[j]? = some x) : subL m (j * 1) 1 = some [x] := by
 have hj := (List.getElem?_eq_some_iff.1 h).1
 rw [Nat.mul_one, subL_of (by omega), List.drop_eq_getElem_cons hj, (List.getElem?_eq_some_iff.1 h).2]
 rfl
theorem flat_at : ∀ {l : List Pt2} {i : Nat} {q : Pt2}, l[i]? = some q -> (l.flatMap ptF)[2 * i]? = some (.c (.int .i64 q.1)) /\ (l.flatMap ptF)[2 * i + 1]? = some (.c (.int .i64 q.2))
 | [], i, q, h => by simp at h
 | y :: l, 0, q, h => by
  simp at h
  subst h
  exact ⟨rfl, rfl⟩
 | y :: l, i + 1, q, h => by
  have ih := flat_at (l := l) (i := i) (q := q) (by simpa using h)
  exact ih
def spotF (q : Pt2) : Ft := ⟨1, 0, [q]⟩
def spots15 (l : List Pt2) : Pic := ⟨20, 12, 2, l.map spotF⟩
def intsA (l : List Pt2) : DV := .one (.f (.sl 1 (l.length * 2) (l.flatMap ptF)))
theorem d_spots15 {l : List Pt2} (hn : l.length < 1000) : DK 11 [intsA l] fun d => d = picD (spots15 l) := by
 refine dfn_ok cp11 rfl GHro fun Z0 lo => ?_
 refine goD ?_; intros
 refine ds_virtD 1 3 3 rfl rfl ?_
 refine ds_loop (fun m E S nk => ∃ (i : Nat) (out : List Ft), i + m = l.length /\ out = (l.take i).map spotF /\ E = [(0, intsA l), (2, .one (.ptr 0 0)), (3, .one (.ptr 1 0)), (4, .int (2 * i : Nat))] /\
   S = [(0, .cells [.f (.c (.int .i64 0)), .f (.c (.int .i64 0)), .f (.c (.int .i64 0)), .f (.c .nils)]), (1, .cells [.f (.c (.int .i64 20)), .f (.c (.int .i64 12)), .f (.c (.int .i64 2)), .own 2 0 out.length 3]), (2, .data (out.flatMap ftF))] /\ nk = 3)
  ⟨l.length, _, _, _, [], ?wk, 0, [], oM, rfl, rfl, rfl, rfl⟩ ?_
 case wk => exact wkA
 rintro m E S nk ⟨i, out, hi, ho, rfl, rfl, rfl⟩
 have w1 : IntKind.i64.wrap (((2 * i : Nat) : Int) + 1) = ((2 * i + 1 : Nat) : Int) := by rw [dwrap (by omega) (by omega)]; omega
 have w2 : IntKind.i64.wrap (((2 * i : Nat) : Int) + 2) = ((2 * (i + 1) : Nat) : Int) := by rw [dwrap (by omega) (by omega)]; omega
 refine goD ?_; intros
 refine ds_if rfl (fun hi2 => ?_) (fun hi2 => ?_)
 ·have hi2 : i < l.length := by have := of_decide_eq_true hi2; rw [w1] at this; omega
  obtain ⟨q, hq⟩ : ∃ q, l[i]? = some q := ⟨_, List.getElem?_eq_getElem hi2⟩
  have hfa := flat_at hq
  have e1 := sub_one hfa.1
  have e2 := sub_one hfa.2
  have hol : out.length = i := by rw [ho, List.length_map, List.length_take]; omega
  have hfl := ftF_len out
  refine goD ?_; intros
  rw [w1]
  iterate 5 (first|(refine dw_want rfl rfl ?_)|(refine dw_skip rfl rfl ?_)|(refine dw_skipU rfl ?_)|(refine dw_pickT rfl rfl ?_)|(refine dw_pickF rfl rfl ?_)|(refine dw_pick rfl dgA dgA ?_)|(refine dw_max rfl rfl ?_)|(refine dw_min rfl rfl ?_)|(refine dw_p rfl ?_)|(refine dw_l rfl ?_)|(refine dw_lk rfl ?_)|(refine dw_pg rfl dgA ?_)|(refine dw_lg rfl dgA ?_)|(refine dw_io1 rfl rfl oM oM ?_)|(refine dw_io0 rfl rfl oM oM ?_)|(refine dw_it0 rfl rfl oM oM ?_)|(refine dw_if0 rfl rfl oM (by decide) aM ?_)|(refine dw_if rfl rfl oM (by decide) aM ?_)|(refine dw_l (dload_data rfl rfl aM rfl) ?_)|(refine dw_lk (dload_data rfl rfl aM rfl) ?_)|(refine dw_l (dload_tree rfl rfl aM) ?_)|(refine dw_lk (dload_tree rfl rfl aM) ?_)|(refine dw_l (dload_tptr rfl rfl aM aM) ?_)|(refine dw_lk (dload_tptr rfl rfl aM aM) ?_)|(refine dw_a rfl ?_)|(refine dw_ai rfl rfl rfl ?_)|(refine dw_st rfl rfl rfl rfl rfl (Nat.le_of_ble_eq_true rfl) rfl ?_)|(refine dw_nil ?_)|(refine ds_seq ?_)|(refine ds_ops mix (fun base => ?_))|(refine ds_skip ?_)|(refine ds_block ?_)|(refine ds_exit ?_))
  have hq2 : (ptF q).length = 1 * 2 := rfl
  refine dw_frz 3 rfl okZ okZ ?_
  refine goD ?_; intros
  refine dw_app (m := 1) (q := ftF (spotF q)) rfl rfl rfl (subL_all _ hfl) ⟨rfl, rfl, _, rfl, rfl⟩ oM oM (by decide) rfl ?_
  rw [show out.flatMap ftF ++ ftF (spotF q) = (out ++ [spotF q]).flatMap ftF by simp, show out.length + 1 = (out ++ [spotF q]).length by simp]
  refine goD ?_; intros
  rw [w2]
  refine ⟨m - 1, by omega, _, _, _, [(2, 5)], ?wk1, i + 1, out ++ [spotF q], by omega, by rw [List.take_add_one, hq, ho]; simp, rfl, rfl, rfl⟩
  case wk1 => exact wkA
 ·have hi2 : i = l.length := by have := of_decide_eq_false hi2; rw [w1] at this; omega
  subst hi2
  rw [List.take_length] at ho
  have hfl := ftF_len out
  refine goD ?_; intros
  refine ds_keep (SubA.cons (k := 2) rfl (SubA.nil _)) (SubA.cons (k := 0) rfl (SubA.cons (k := 2) rfl (SubA.nil _))) ?_
  refine ds_frz 2 rfl okZ okZ ?_
  refine ds_ret ⟨_, rfl, rfl, ?_⟩
  rw [spots15, <- ho]
  rfl
end Go.Af

namespace Go.Af
open Go.Ab Go.Proofs
theorem PlcR.uniq {p : Pic} {a b : Plc} (ha : PlcR p a) (hb : PlcR p b) : a = b := by
 cases ha with
 | bad i hi h1 h2 =>
  cases hb with
  | bad j hj h3 h4 =>
   have : i = j := by
    rcases Nat.lt_trichotomy i j with h|h|h
    ·exact absurd h1 (h4 i h)
    ·exact h
    ·exact absurd h3 (h2 j h)
   rw [this]
  | ok h3 => exact absurd h1 (h3 i hi)
 | ok h1 =>
  cases hb with
  | bad j hj h3 h4 => exact absurd h3 (h1 j hj)
  | ok h3 => rfl
def full15 : Pic := ⟨20, 12, 2, [⟨3, 3, [(0, 0), (19, 0), (19, 11), (0, 11)]⟩]⟩
theorem sp1 : sAt (spots15 [(0, 0)]) 0 = [(2, 0)] := by kernel_rfl
theorem sp2 : sAt (spots15 [(10, 5)]) 0 = [(1, 0)] := by kernel_rfl
def four15 : List Pt2 := [(0, 0), (19, 0), (0, 11), (19, 11)]
theorem sp30 : sAt (spots15 four15) 0 = [(2, 0)] := by kernel_rfl
theorem sp31 : sAt (spots15 four15) 1 = [(2, 0), (6, 0)] := by kernel_rfl
theorem sp32 : sAt (spots15 four15) 2 = [(2, 0), (6, 0), (0, 2)] := by kernel_rfl
theorem sp33 : sAt (spots15 four15) 3 = [(2, 0), (6, 0), (0, 2), (8, 1)] := by kernel_rfl
def areaF : Ft := ⟨3, 3, [(0, 0), (19, 0), (19, 11), (0, 11)]⟩
def offs : List Pt2 := [(0, 0), (0, 1), (1, 0), (1, 1), (0, 2), (2, 0), (2, 1), (1, 2), (2, 2), (-1, 0), (0, -1), (-1, -1)]
def nearA (x y : Nat) : Bool := offs.any fun o => in60 (2 * (x : Int) + 1 + o.1, 3 * (y : Int) + o.2) && (texP 3 (2 * (x : Int) + 1 + o.1, 3 * (y : Int) + o.2) && inP areaF.pts (2 * (x : Int) + 1 + o.1, 3 * (y : Int) + o.2))
theorem nearA_all : ((List.range 9).all fun x => (List.range 4).all fun y => nearA x y) = true := by kernel_rfl
theorem validPic_full : validPic full15 = true := by kernel_rfl
theorem fits_full {x y : Nat} (hx : x < 9) (hy : y < 4) : fitsP full15 0 ((x : Int), (y : Int)) = false := by
 have h := List.all_eq_true.1 (List.all_eq_true.1 nearA_all x (List.mem_range.2 hx)) y (List.mem_range.2 hy)
 obtain ⟨o, ho, h⟩ := List.any_eq_true.1 h
 simp only [Bool.and_eq_true] at h
 obtain ⟨h1, h2, h3⟩ := h
 have hm : (2 * (x : Int) + 1 + o.1, 3 * (y : Int) + o.2) ∈ pointsF areaF := by
  rw [pointsF, if_neg (by decide), if_neg (by decide), sortedP_mem, List.mem_append]
  refine .inr (List.mem_filter.2 ⟨gridL_mem.2 h1, ?_⟩)
  rw [Bool.and_eq_true]
  exact ⟨h2, h3⟩
 have hd : dist (lblP 0 ((x : Int), (y : Int))) (pointsF areaF) <= 2 := (dist_le (lblP_ne 0 _) (fun e => by rw [e] at hm; cases hm)).2 ⟨_, lblP_first 0 _, _, hm, by
  have ho2 : -2 <= o.1 /\ o.1 <= 2 /\ -2 <= o.2 /\ o.2 <= 2 := by
   have : ∀ o ∈ offs, -2 <= o.1 /\ o.1 <= 2 /\ -2 <= o.2 /\ o.2 <= 2 := by decide
   exact this o ho
  simp only [far, lbQ]
  omega⟩
 have hp : ptsOf full15 = [pointsF areaF] := by
  rw [ptsOf, show full15.fs = [areaF] from rfl, List.map_cons, List.map_nil]
 rw [fitsP, hp, List.all_cons, farL, show full15.gap = 2 from rfl, decide_eq_true hd, Bool.not_true, Bool.false_and, Bool.false_and, Bool.and_false]
theorem cand_full : candP full15 0 = [] := by
 unfold candP candN rowC
 rw [show (full15.h / 3).toNat = 4 by decide, show (full15.w / 2).toNat - 1 = 9 by decide]
 refine List.eq_nil_iff_forall_not_mem.2 fun q hq => ?_
 obtain ⟨y, hy, hq⟩ := List.mem_flatMap.1 hq
 obtain ⟨hq, hf⟩ := List.mem_filter.1 hq
 obtain ⟨x, hx, rfl⟩ := List.mem_map.1 hq
 rw [fits_full (List.mem_range.1 hx) (List.mem_range.1 hy)] at hf
 cases hf
theorem spf : sAt full15 0 = [] := by
 have : alls full15 1 = [[]] := by rw [alls_succ, cand_full]; rfl
 rw [sAt, this]
 rfl
theorem plc_s1 : PlcR (spots15 [(0, 0)]) ([(2, 0)], 1, 0) := by
 have h := PlcR.ok (p := spots15 [(0, 0)]) fun j hj => by
  obtain rfl : j = 0 := by have : j < 1 := hj; omega
  rw [sp1]; decide
 rw [show (spots15 [(0, 0)]).fs.length - 1 = 0 from rfl, sp1] at h
 exact h
theorem plc_s2 : PlcR (spots15 [(10, 5)]) ([(1, 0)], 1, 0) := by
 have h := PlcR.ok (p := spots15 [(10, 5)]) fun j hj => by
  obtain rfl : j = 0 := by have : j < 1 := hj; omega
  rw [sp2]; decide
 rw [show (spots15 [(10, 5)]).fs.length - 1 = 0 from rfl, sp2] at h
 exact h
theorem plc_s3 : PlcR (spots15 four15) ([(2, 0), (6, 0), (0, 2), (8, 1)], 4, 0) := by
 have h := PlcR.ok (p := spots15 four15) fun j hj => by
  have hj : j < 4 := hj
  match j, hj with
  | 0, _ => rw [sp30]; decide
  | 1, _ => rw [sp31]; decide
  | 2, _ => rw [sp32]; decide
  | 3, _ => rw [sp33]; decide
 rw [show (spots15 four15).fs.length - 1 = 3 from rfl, sp33] at h
 exact h
theorem plc_sf : PlcR full15 ([], 0, 150) := .bad 0 (by decide) (by rw [spf]; decide) fun j hj => by omega
theorem leg1 : (validPic (spots15 [(0, 0)]) && legalP (spots15 [(0, 0)]) [(2, 1)]) = true := by kernel_rfl
theorem leg2 : (validPic (spots15 [(0, 0)]) && legalP (spots15 [(0, 0)]) []) = false := by kernel_rfl
theorem leg3 : (validPic (spots15 [(0, 0)]) && legalP (spots15 [(0, 0)]) [(0, 0)]) = false := by kernel_rfl
end Go.Af
