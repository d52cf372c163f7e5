/- Contracts of functions of the program over the abstract semantics. -/
import Derived.Test.YtbjkifniloohcaaGreatDoorAb9
import Derived.Shelf.SlSortCmp.WholeK
import Derived.Test.YtbjkifniloohcaaGreatDoorProg
set_option linter.unusedVariables false
set_option linter.unusedSimpArgs false
namespace Go.Proofs
open Go.Shelf
def Tryz.sortPt_ren : Go.Shelf.Ren := ⟨fun|6 => 85|15 => 90|14 => 94|28 => 104|29 => 105|20 => 106|21 => 107|22 => 108|23 => 109|24 => 110|25 => 111|26 => 112|27 => 113|46 => 119|47 => 115|48 => 116|49 => 120|50 => 121|57 => 123|n => n, fun|22 => 34|24 => 29|25 => 96|3 => 3|39 => 89|0 => 0|53 => 138|55 => 140|4 => 4|46 => 132|45 => 131|50 => 118|5 => 5|9 => 9|66 => 146|70 => 150|76 => 154|77 => 155|n => n, fun|n => n⟩
theorem Tryz.sortPt : Go.Proofs.SlLaysF0.n6 Tryz.prog Tryz.sortPt_ren := {
 mixed := by kernel_rfl
 f6 := ⟨Tryz.f85.name, by decide, Tryz.func85.trans (congrArg some (by kernel_rfl))⟩
 f14 := ⟨Tryz.f94.name, by decide, Tryz.func94.trans (congrArg some (by kernel_rfl))⟩
 f15 := Tryz.func90.trans (congrArg some (by kernel_rfl))
 f20 := ⟨Tryz.f106.name, by decide, Tryz.func106.trans (congrArg some (by kernel_rfl))⟩
 f21 := ⟨Tryz.f107.name, by decide, Tryz.func107.trans (congrArg some (by kernel_rfl))⟩
 f22 := ⟨Tryz.f108.name, by decide, Tryz.func108.trans (congrArg some (by kernel_rfl))⟩
 f23 := ⟨Tryz.f109.name, by decide, Tryz.func109.trans (congrArg some (by kernel_rfl))⟩
 f24 := ⟨Tryz.f110.name, by decide, Tryz.func110.trans (congrArg some (by kernel_rfl))⟩
 f25 := ⟨Tryz.f111.name, by decide, Tryz.func111.trans (congrArg some (by kernel_rfl))⟩
 f26 := ⟨Tryz.f112.name, by decide, Tryz.func112.trans (congrArg some (by kernel_rfl))⟩
 f27 := ⟨Tryz.f113.name, by decide, Tryz.func113.trans (congrArg some (by kernel_rfl))⟩
 f28 := Tryz.func104.trans (congrArg some (by kernel_rfl))
 f29 := Tryz.func105.trans (congrArg some (by kernel_rfl))
 f46 := ⟨Tryz.f119.name, by decide, Tryz.func119.trans (congrArg some (by kernel_rfl))⟩
 f47 := Tryz.func115.trans (congrArg some (by kernel_rfl))
 f48 := Tryz.func116.trans (congrArg some (by kernel_rfl))
 f49 := ⟨Tryz.f120.name, by decide, Tryz.func120.trans (congrArg some (by kernel_rfl))⟩
 f50 := ⟨Tryz.f121.name, by decide, Tryz.func121.trans (congrArg some (by kernel_rfl))⟩
 f57 := ⟨Tryz.f123.name, by decide, Tryz.func123.trans (congrArg some (by kernel_rfl))⟩
 t0 := Tryz.underlying0
 a0 := Tryz.isAgg0
 z0 := Tryz.sizeOf0
 v0 := Tryz.zeroValue0
 t3 := Tryz.underlying3
 a3 := Tryz.isAgg3
 z3 := Tryz.sizeOf3
 v3 := Tryz.zeroValue3
 t4 := Tryz.underlying4
 a4 := Tryz.isAgg4
 z4 := Tryz.sizeOf4
 v4 := Tryz.zeroValue4
 t5 := Tryz.underlying5
 a5 := Tryz.isAgg5
 z5 := Tryz.sizeOf5
 v5 := Tryz.zeroValue5
 t9 := Tryz.underlying9
 a9 := Tryz.isAgg9
 z9 := Tryz.sizeOf9
 v9 := Tryz.zeroValue9
 t22 := Tryz.underlying34
 a22 := Tryz.isAgg34
 z22 := Tryz.sizeOf34
 v22 := Tryz.zeroValue34
 t25 := Tryz.underlying96
 a25 := Tryz.isAgg96
 z25 := Tryz.sizeOf96
 v25 := Tryz.zeroValue96
 t39 := Tryz.underlying89
 a39 := Tryz.isAgg89
 z39 := Tryz.sizeOf89
 v39 := Tryz.zeroValue89
 t45 := Tryz.underlying131
 a45 := Tryz.isAgg131
 z45 := Tryz.sizeOf131
 v45 := Tryz.zeroValue131
 t46 := Tryz.underlying132
 a46 := Tryz.isAgg132
 z46 := Tryz.sizeOf132
 v46 := Tryz.zeroValue132
 t50 := Tryz.underlying118
 a50 := Tryz.isAgg118
 z50 := Tryz.sizeOf118
 v50 := Tryz.zeroValue118
 t53 := Tryz.underlying138
 a53 := Tryz.isAgg138
 z53 := Tryz.sizeOf138
 v53 := Tryz.zeroValue138
 t55 := Tryz.underlying140
 a55 := Tryz.isAgg140
 z55 := Tryz.sizeOf140
 v55 := Tryz.zeroValue140
 t66 := Tryz.underlying146
 a66 := Tryz.isAgg146
 z66 := Tryz.sizeOf146
 v66 := Tryz.zeroValue146
 t70 := Tryz.underlying150
 a70 := Tryz.isAgg150
 z70 := Tryz.sizeOf150
 v70 := Tryz.zeroValue150
 t76 := Tryz.underlying154
 a76 := Tryz.isAgg154
 z76 := Tryz.sizeOf154
 v76 := Tryz.zeroValue154
 t77 := Tryz.underlying155
 a77 := Tryz.isAgg155
 z77 := Tryz.sizeOf155
 v77 := Tryz.zeroValue155 }
end Go.Proofs

namespace Go.Ab
open Go.Sort Go.Proofs
section
variable {P : Program} {G : Nat} {μ μ' : Nat -> Pl} {K K' : Nat -> Prop} {H H' : Hp} {w w' : World}
theorem Rel.congr (hR : Rel G μ K H w) (h : ∀ b bk, H.get b = some bk -> w'.heap[(μ b).blk]? = w.heap[(μ b).blk]?) : Rel G μ K H w' :=
 ⟨hR.dom, hR.lt, fun b bk hb => by rw [h b bk hb]; exact hR.blk b bk hb, hR.inj, hR.glob⟩
theorem Fr.quiet (h : Fr μ K H w μ' K' H' w') (hno : ∀ b bk, H.get b = some bk -> bk.mut = false) : ∃ q os', w' = Go.Sort.grow (w.drewN q) os' := by
 refine ⟨w'.drawn - w.drawn, w'.heap.extract w.heap.size w'.heap.size, ?_⟩
 have hheap : w'.heap = w.heap ++ w'.heap.extract w.heap.size w'.heap.size := by
  apply Array.ext_getElem?
  intro i
  by_cases hi : i < w.heap.size
  ·rw [Array.getElem?_append_left hi]
   exact h.keep i hi fun b bk hb hm => by rw [hno b bk hb] at hm; cases hm
  ·have := h.size
   rw [Array.getElem?_append_right (by omega)]
   by_cases hj : i < w'.heap.size
   ·rw [Array.getElem?_extract]
    simp
    rw [show w.heap.size + (i - w.heap.size) = i by omega]
    by_cases h2 : i - w.heap.size < w'.heap.size - w.heap.size
    ·simp [h2]
    ·omega
   ·rw [Array.getElem?_eq_none (by omega), Array.getElem?_eq_none (by simp; omega)]
 obtain ⟨h1, h2, h3, h4⟩ := h.same
 obtain ⟨hp, tp, dr, o, ou⟩ := w
 obtain ⟨hp', tp', dr', o', ou'⟩ := w'
 simp only [Go.Sort.grow, World.drewN] at *
 subst h1 h2 h3
 rw [<- hheap, show dr + (dr' - dr) = dr' by omega]
theorem ACalls.any {f : FuncId} {args : List V} {xs : List Value} {c : C} {x : Value} (h : ACalls P G f args ⟨.lf, G⟩ fun v _ => v = .one c) (hx : ∀ μ K, All2 (RV μ K) args xs) (hc : ∀ μ K y, RV μ K (.one c) y -> y = x) (W : World) : Calls P f xs.toArray W fun e w' => e = .returned x /\ ∃ q os', w' = Go.Sort.grow (W.drewN q) os' := by
 have hn : ∀ b bk, (⟨.lf, G⟩ : Hp).get b = some bk -> False := fun b bk hb => by simp [Hp.get] at hb
 have hR : Rel G (fun b => ⟨b, 0, 0⟩) (fun b => b < G) ⟨.lf, G⟩ W := ⟨fun b bk hb => (hn b bk hb).elim, fun _ h => h, fun b bk hb => (hn b bk hb).elim, fun b _ bk _ hb => (hn b bk hb).elim, fun g hg => ⟨hg, rfl, rfl⟩⟩
 refine (h _ _ W xs hR (hx _ _)).mono ?_
 rintro e w' ⟨y, rfl, v, H', μ', K', rfl, hy, _, hF⟩
 exact ⟨by rw [hc _ _ y hy], hF.quiet fun b bk hb => (hn b bk hb).elim⟩
theorem Rel.putRow (P : Program) (hR : Rel G μ K H w) {b o nb : Nat} {z : List C} {mm : T C} (hb : H.get b = some (.row nb z mm true)) {l : List C} (hst : H.stores b o l = some H') (hin : o + l.length <= nb) {F : Array Value} (hF : All2 (RC μ K) l F.toList) (m : Nat) (os : Array Obj) :
  Rel G μ K H' (Go.Sort.grow (Go.Sort.putRow id (Go.Sort.ahead w m) (μ b).blk ((μ b).off + o) F) os) /\ Fr μ K H w μ K H' (Go.Sort.grow (Go.Sort.putRow id (Go.Sort.ahead w m) (μ b).blk ((μ b).off + o) F) os) := by
 obtain ⟨cs, t, fz, h1, h2, h3, h4, h5⟩ := hR.blk b _ hb
 obtain rfl := h4 rfl
 obtain ⟨w1, hrun, hR1, hF1⟩ := Rel.stores (P := P) (i := 0) (o := o) hR (by simpa using hst) hF
 have hFl : F.toList.length = l.length := hF.len.symm
 obtain ⟨w2, cs', q1, q2, q3, q4, q5, q6, q7, q8, q9, _⟩ := store_conc (P := P) (g := (μ b).blk) (t := t) (xs := F.toList) (w := w) (cs := cs) (q := (μ b).off + o) (i := 0) h1 hF.oneC oM
 have hww : w1 = w2 := by
  have e : (storeCells ((μ b).addr o) F.toList 0).run P w = .ok () w2 := q1
  rw [hrun] at e
  cases e
  rfl
 subst hww
 have hcs : cs' = putCells id ((μ b).off + o) F cs := by
  apply Array.ext_getElem?
  intro j
  rw [q4 j]
  unfold putCells
  rw [Array.getElem?_mapIdx]
  have hs : F.size = F.toList.length := by simp
  split
  ·rename_i hj
   have hj' : j < cs.size := by omega
   rw [Array.getElem?_eq_getElem hj']
   simp only [Option.map_some]
   rw [if_pos (by omega)]
   have hk : j - ((μ b).off + o + 0) < F.size := by omega
   rw [List.getElem?_eq_getElem (by simpa using hk)]
   simp only [Nat.add_zero] at hk ⊢
   simp [getElem!_pos, hk]
  ·rename_i hj
   cases hcj : cs[j]? with
   | none => rfl
   | some y =>
    simp only [Option.map_some]
    rw [if_neg (by omega)]
 have key : ∀ i, i < w.heap.size -> (Go.Sort.grow (Go.Sort.putRow id (Go.Sort.ahead w m) (μ b).blk ((μ b).off + o) F) os).heap[i]? = w1.heap[i]? := fun i hi => by
  have hsz : (Go.Sort.putRow id (Go.Sort.ahead w m) (μ b).blk ((μ b).off + o) F).heap.size = w.heap.size := by simp [Go.Sort.ahead]
  unfold Go.Sort.grow
  simp only
  rw [Array.getElem?_append_left (by rw [hsz]; exact hi)]
  unfold Go.Sort.putRow mapBlock
  simp only [Go.Sort.ahead]
  rw [Array.getElem?_modify]
  by_cases e : (μ b).blk = i
  ·subst e
   rw [if_pos rfl, h1, q2, hcs]
   rfl
  ·rw [if_neg e, q5 i (fun h => e h.symm)]
 have hsize : (Go.Sort.grow (Go.Sort.putRow id (Go.Sort.ahead w m) (μ b).blk ((μ b).off + o) F) os).heap.size = w.heap.size + os.size := by simp [Go.Sort.grow, Go.Sort.ahead]
 refine ⟨hR1.congr fun b' bk' hb' => key _ (by have := hR1.blk_lt hb'; omega), ?_⟩
 exact ⟨⟨rfl, rfl, rfl, by simp [Go.Sort.grow, Go.Sort.ahead]⟩, by omega, fun i hi hn => (key i hi).trans (hF1.keep i hi hn), hF1.img, hF1.newmut, hF1.mu, hF1.kk, hF1.knew, hF1.nx, hF1.none, hF1.stay, hF1.ro⟩
end
end Go.Ab

namespace Go.Ae
open Go.Ab Go.Proofs
set_option linter.unusedSimpArgs false
def cmpP (a b : Pt2) : Int := if before a b = true then -1 else if a = b then 0 else 1
theorem noro : ∀ b bk, (⟨.lf, 1⟩ : Hp).get b = some bk -> bk.ro = some bk := fun b bk h => by simp [Hp.get] at h
open Go.Shelf Go.RowKit Go.Lib Go.Sort
def encPt (p : Pt2) : List Value := [.int .i64 p.1, .int .i64 p.2]
theorem sb_irrefl (x : Pt2) : before x x = false := by simp [before]
theorem sb_iff (x y : Pt2) : before x y = true ↔ x.2 < y.2 \/ (x.2 = y.2 /\ x.1 < y.1) := by
 unfold before
 by_cases h1 : x.2 < y.2
 ·simp [h1]
 ·by_cases h2 : x.2 = y.2
  ·simp [h2]
  ·simp [h1, h2]
theorem ltcmp (x y : Pt2) : ltOf cmpP x y = before x y := by
 unfold ltOf cmpP
 cases h : before x y with
 | true => simp
 | false =>
  simp only [Bool.false_eq_true, if_false]
  split <;> simp
theorem swo : SWO (ltOf cmpP) where
 irrefl x := by rw [ltcmp, sb_irrefl]
 trans x y z h1 h2 := by rw [ltcmp, sb_iff] at *; omega
 ntrans x y z h1 h2 := by
  rw [ltcmp, <- Bool.not_eq_true, sb_iff] at *; omega
theorem encPt_at : ∀ (l : List Pt2) (j : Nat), j < l.length * 2 -> (l.flatMap encPt)[j]? = some (encPt (l[j / 2]!))[j % 2]!
 | [], j, h => by simp at h
 | x :: l, 0, h => rfl
 | x :: l, 1, h => rfl
 | x :: l, j + 2, h => by
  have := encPt_at l j (by simp at h; omega)
  rw [show (j + 2) / 2 = j / 2 + 1 by omega, show (j + 2) % 2 = j % 2 by omega]
  simpa [encPt] using this
theorem flat_eq (l : List Pt2) : (flatK encPt 2 l.toArray).toList = l.flatMap encPt := by
 apply List.ext_getElem?
 intro j
 by_cases hj : j < l.length * 2
 ·rw [encPt_at l j hj]
  have h1 : j < (flatK encPt 2 l.toArray).size := by simpa using hj
  rw [List.getElem?_eq_getElem (by simpa using h1)]
  have := get_flatK encPt 2 l.toArray j (by simpa using hj)
  rw [getElem!_pos _ j h1] at this
  simp only [Array.getElem_toList]
  rw [this]
  simp
 ·rw [List.getElem?_eq_none (by simp; omega), List.getElem?_eq_none]
  have : ∀ m : List Pt2, (m.flatMap encPt).length = m.length * 2 := by
   intro m
   induction m with
   | nil => rfl
   | cons x m ih => show (encPt x ++ m.flatMap encPt).length = _; rw [List.length_append, ih]; simp [encPt]; omega
  rw [this]; omega
theorem all_enc {μ : Nat -> Pl} {K : Nat -> Prop} : ∀ l : List Pt2, All2 (RC μ K) (ptsC l) (l.flatMap encPt)
 | [] => trivial
 | x :: l => ⟨rfl, rfl, all_enc l⟩
def SortedP (l : List Pt2) : Prop := ∀ (i j : Nat) (x y : Pt2), l[i]? = some x -> l[j]? = some y -> i < j -> before y x = false
theorem ptsC_len (l : List Pt2) : (ptsC l).length = l.length * 2 := by
 induction l with
 | nil => rfl
 | cons x l ih => show (ptC x ++ ptsC l).length = _; rw [List.length_append, ih]; simp [ptC]; omega
theorem ptsC_at : ∀ (l : List Pt2) (j : Nat), j < l.length * 2 -> ∃ n : Int, (ptsC l)[j]? = some (.int .i64 n) /\ (l.flatMap encPt)[j]? = some (.int .i64 n)
 | [], j, h => by simp at h
 | x :: l, 0, h => ⟨x.1, rfl, rfl⟩
 | x :: l, 1, h => ⟨x.2, rfl, rfl⟩
 | x :: l, j + 2, h => by
  obtain ⟨n, h1, h2⟩ := ptsC_at l j (by simp at h; omega)
  exact ⟨n, by simpa [ptsC, ptC] using h1, by simpa [encPt] using h2⟩
structure CmpAt (k : FuncId) : Prop where
 eg : ∀ args w, (callFunc k args).run Tryz.prog w = .ok (.enter k args) w
 calls : ∀ (x y : Pt2) (W : World), Calls Tryz.prog k #[.agg (encPt x).toArray, .agg (encPt y).toArray] W fun e w' => e = .returned (.int .i64 (cmpP x y)) /\ ∃ q os', w' = Go.Sort.grow (W.drewN q) os'
theorem cmpAt {k : FuncId} (eg : ∀ args w, (callFunc k args).run Tryz.prog w = .ok (.enter k args) w) (h : ∀ a b : Pt2, DCalls Tryz.prog 1 ⟨.lf, 1⟩ k [ptD a, ptD b] fun d => d = .int (cmpP a b)) : CmpAt k := by
 refine ⟨eg, fun x y W => ?_⟩
 have h : ACalls Tryz.prog 1 k [.agg (ptC x), .agg (ptC y)] ⟨.lf, 1⟩ fun v _ => v = .one (.int .i64 (cmpP x y)) := by
  have := h x y ⟨.lf, 1⟩ (fun _ => False) [.agg (ptC x), .agg (ptC y)] (fun b bk h => by simp [Hp.get] at h) (fun _ h => h.elim) (fun b bk h => by simp [Hp.get] at h) ⟨⟨_, rfl, .c _ rfl, .c _ rfl, trivial⟩, ⟨_, rfl, .c _ rfl, .c _ rfl, trivial⟩, trivial⟩
  refine this.mono ?_
  rintro v H' ⟨_, _, _, d, hr, rfl⟩
  obtain ⟨c, rfl, hr⟩ := hr
  cases hr
  rfl
 exact ACalls.any (xs := [.agg (encPt x).toArray, .agg (encPt y).toArray]) h (fun μ K => ⟨⟨_, rfl, rfl, rfl, trivial⟩, ⟨_, rfl, rfl, rfl, trivial⟩, trivial⟩) (fun μ K y hy => hy) W
theorem sort_ok {k : FuncId} (hk : CmpAt k) {H : Hp} {l : List Pt2} {b o cap nb : Nat} {ex : Bool} {z : List C} {mm : T C} (hb : H.get b = some (.row nb z mm true)) (hin : o + l.length * 2 <= nb) (hld : H.loads b o (l.length * 2) = some (ptsC l)) (hpos : 0 < l.length) (hsz : l.length < 4611686018427387904) (hall : ∃ cells, Row H b cells) :
  ACalls Tryz.prog 1 85 [.one (.slc b o l.length cap 2 ex), .one (.fn k [])] H fun v H' => v = .tup [] /\ ∃ l' : List Pt2, l'.Perm l /\ SortedP l' /\ H.stores b o (ptsC l') = some H' := by
 intro μ K w xs hR ha
 match xs, ha with
 | [x1, x2], ⟨⟨hK, a, c, h1, h2, h3, h4, h5⟩, ⟨_, h6⟩, _⟩ =>
  subst h1 h6
  rcases h5 with h5|⟨rfl, h5⟩
  ·omega
  ·obtain ⟨cs, t, fz, e1, e2, e3, e4, e5⟩ := hR.blk b _ hb
   obtain rfl := e4 rfl
   have hblk : (μ b).blk < w.heap.size := hR.blk_lt hb
   have hH : HoldsK encPt 2 w (μ b).blk ((μ b).off + o) l.toArray := by
    intro j hj
    have hj' : j < l.length * 2 := by simpa using hj
    obtain ⟨n, g1, g2⟩ := ptsC_at l j hj'
    have hcell : H.cell b (o + j) = some (.int .i64 n) := by rw [<- g1]; exact loads_cell hld hj'
    have hcell' : (B.row nb z mm true).cell (o + j) = some (.int .i64 n) := by simpa [Hp.cell, hb] using hcell
    obtain ⟨x, k1, k2⟩ := e5 _ _ hcell'
    have k2 : x = .int .i64 n := k2
    subst k2
    refine ⟨?_, by simp [World.frozen?, e1]⟩
    have hf : (flatK encPt 2 l.toArray)[j]! = .int .i64 n := by
     have h7 : (flatK encPt 2 l.toArray).toList[j]? = some (.int .i64 n) := by rw [flat_eq]; exact g2
     rw [getElem!_pos _ j hj]
     have := List.getElem?_eq_some_iff.1 h7
     obtain ⟨_, this⟩ := this
     simpa using this
    rw [hf]
    simp only [World.cell?, e1]
    simpa [Nat.add_assoc] using k1
   have hcon := AnyQ.slices_SortFunc Tryz.sortPt 2 Tryz.isAgg29 Tryz.sizeOf29 encPt (fun _ => rfl) (fun x v hv => by simp [encPt] at hv; rcases hv with rfl|rfl <;> rfl) cmpP swo k #[] (μ b).blk ((μ b).off + o) c l.toArray w hk.eg (fun _ _ _ _ x y => hk.calls x y _) hH hblk (by simpa using hsz)
   have hcon' : Calls Tryz.prog 85 #[.slice (some ((μ b).addr o)) l.length c, .func (.func k) #[] #[]] w _ := hcon
   refine hcon'.mono ?_
   rintro e w' ⟨rfl, d', m, os, hp, hs, rfl⟩
   obtain ⟨p1, p2, p3⟩ := hp
   simp only [List.size_toArray] at p1
   have hperm : d'.toList.Perm l := by
    have e1 : (d'.extract 0 l.toArray.size).toList = d'.toList := by
     rw [show l.toArray.size = d'.size by simp [p1]]; simp
    have e2 : (l.toArray.extract 0 l.toArray.size).toList = l := by simp
    rw [e1, e2] at p3
    exact p3
   have hlen : d'.toList.length = l.length := hperm.length_eq
   obtain ⟨cells, hrow⟩ := hall
   have hcl : cells.length = nb := by
    obtain ⟨⟨z', m', hz⟩, _⟩ := hrow
    rw [hb] at hz
    exact (B.row.inj (Option.some.inj hz)).1.symm
   obtain ⟨H', s1, s2, s3, s4⟩ := hrow.stores (cs := ptsC d'.toList) (i := o) (by rw [ptsC_len, hlen]; omega)
   have hput := Rel.putRow Tryz.prog hR hb s1 (by rw [ptsC_len, hlen]; exact hin) (F := flatK encPt 2 d') (by
    have : (flatK encPt 2 d').toList = d'.toList.flatMap encPt := by
     have := flat_eq d'.toList
     simpa using this
    rw [this]; exact all_enc _) m os
   refine ⟨_, rfl, .tup [], H', μ, K, ⟨rfl, d'.toList, hperm, ?_, s1⟩, ⟨[], rfl, trivial⟩, hput.1, hput.2⟩
   intro i j x y hi hj hij
   have hji : j < d'.size := by simpa using (List.getElem?_eq_some_iff.1 hj).1
   have := hs i j (Nat.zero_le _) hij (by simp [<- p1]; exact hji)
   rw [ltcmp] at this
   have ex1 : d'[i]! = x := by
    rw [getElem!_pos _ i (by omega)]
    have := (List.getElem?_eq_some_iff.1 hi).2
    simpa using this
   have ey1 : d'[j]! = y := by
    rw [getElem!_pos _ j hji]
    have := (List.getElem?_eq_some_iff.1 hj).2
    simpa using this
   rw [ex1, ey1] at this
   exact this
end Go.Ae

namespace Go.Ae
open Go.Ab Go.Proofs
set_option linter.unusedSimpArgs false
abbrev fnK (k : FuncId) : DV := .one (.f (.c (.fn k [])))
theorem ptF_C {Z : Nat -> Prop} {H : Hp} : ∀ {l : List Pt2} {cs : List C}, All2 (RF Z H) (l.flatMap ptF) cs -> cs = ptsC l
 | [], [], _ => rfl
 | [], _ :: _, h => h.elim
 | x :: l, cs, h => by
  match cs, h with
  | c1 :: c2 :: cs, ⟨h1, h2, h3⟩ =>
   cases h1; cases h2
   rw [ptF_C (l := l) h3]
   rfl
  | [_], h => exact h.2.elim
  | [], h => exact h.elim
theorem ptC_F {Z : Nat -> Prop} {H : Hp} : ∀ l : List Pt2, All2 (RF Z H) (l.flatMap ptF) (ptsC l)
 | [] => trivial
 | x :: l => ⟨.c _ rfl, .c _ rfl, ptC_F l⟩
noncomputable abbrev parK (Z0 : Nat -> Prop) (lo anc : Nat) (β0 : Beta) (H1 : Hp) : Par := ⟨Tryz.prog, 1, H00 1, Z0, lo, anc, β0, H1, none⟩
abbrev DKX (f : FuncId) (ds : List DV) (S : Bx) (nk : Nat) (R : DV -> Bx -> Nat -> Prop) : Prop := ∀ Z0 lo anc β0 H1, DX (parK Z0 lo anc β0 H1) f ds S nk R
theorem dxk_ok {f : FuncId} {sf : SFn} (hf : cpFn Tryz.prog 1 f = some sf) {ds : List DV} {S : Bx} {nk : Nat} {R : DV -> Bx -> Nat -> Prop} (hn : Nat.ble ds.length sf.n = true)
  (h : ∀ Z β H lo, DPS (parK Z lo nk β H) sf.n sf.code (retO (parK Z lo nk β H) sf.res R) (argsD ds 0) S nk) : DKX f ds S nk R := fun Z0 lo anc β0 H1 => dx_ok (p := parK Z0 lo anc β0 H1) hf hn fun Z β H => h Z β H lo
theorem dx_sortK {g : FuncId} (hg : CmpAt g) {k nk : Nat} {l : List Pt2} {S : Bx} (hk : lk S k = some (.data (l.flatMap ptF))) (hpos : 0 < l.length) (hsz : l.length < 1000000000000) : DKX 85 [.one (.own k 0 l.length 2), fnK g] S nk fun d S' nk' => d = .tup [] /\ nk' = nk /\ ∃ l' : List Pt2, l'.Perm l /\ SortedP l' /\ S' = put k (.data (l'.flatMap ptF)) S := by
 intro Z0 lo anc β0 H1 Z β H args hS ha
 match args, ha with
 | [v1, v2], ⟨h1, h2, _⟩ =>
  obtain ⟨c1, rfl, h1⟩ := h1
  obtain ⟨c2, rfl, h2⟩ := h2
  cases h2
  rcases h1 with ⟨_, h1, _⟩|⟨b, N, cap, ex, hb, rfl, hcap, hN⟩
  ·omega
  ·obtain ⟨s, hs, hbx⟩ := hS.box (k, 0) _ (lk2_of hk rfl)
   rw [hb] at hs
   obtain rfl := Option.some.inj hs
   obtain ⟨hz, hlo, hlt, cs, rest, hrow, hNl, hrel⟩ := hbx
   have hrow : Row H b (cs ++ rest) := hrow
   have hNl : (cs ++ rest).length = N := hNl
   obtain rfl := ptF_C hrel
   obtain ⟨⟨z, mm, hget⟩, hld⟩ := hrow
   have hin : 0 + l.length * 2 <= (ptsC l ++ rest).length := by rw [List.length_append, ptsC_len]; omega
   have hld' : H.loads b 0 (l.length * 2) = some (ptsC l) := by
    have := loads_take hld (m := l.length * 2) (by rw [List.length_append, ptsC_len]; omega)
    rw [this, List.take_append_of_le_length (by rw [ptsC_len]; omega), List.take_of_length_le (by rw [ptsC_len]; omega)]
   refine (sort_ok hg hget hin hld' hpos oM ⟨_, ⟨z, mm, hget⟩, hld⟩).mono ?_
   rintro v H' ⟨rfl, l', hp, hso, hst⟩
   have hl' : l'.length = l.length := hp.length_eq
   obtain ⟨H2, e1, e2, e3, e4⟩ := Row.stores (cs := ptsC l') (i := 0) ⟨⟨z, mm, hget⟩, hld⟩ (by rw [List.length_append, ptsC_len, ptsC_len]; omega)
   rw [hst] at e1
   obtain rfl := Option.some.inj e1
   rw [setL_app (ptsC l') (ptsC l) rest 0 (by rw [ptsC_len, ptsC_len]; omega)] at e2
   have hset : setL (ptsC l) 0 (ptsC l') = ptsC l' := by
    have := dsetL_mid [] (ptsC l) (ptsC l') [] (by rw [ptsC_len, ptsC_len, hl'])
    simpa using this
   rw [hset] at e2
   obtain ⟨hS', hZ⟩ := hS.upd (x' := .data (l'.flatMap ptF)) (cs := ptsC l') (rest := rest) hk rfl hb (ptC_F l') e3 e4 rfl e2 (by rw [<- hNl, List.length_append, List.length_append, ptsC_len, ptsC_len, hl'])
   exact ⟨.tup [], _, _, Z, β, hS', ⟨[], rfl, trivial⟩, hZ, fun _ _ h => h, rfl, rfl, l', hp, hso, rfl⟩
theorem before_iff {a b : Pt2} : before a b = true ↔ a.2 < b.2 \/ (a.2 = b.2 /\ a.1 < b.1) := by
 unfold before
 by_cases h1 : a.2 < b.2
 ·simp [h1]
 ·by_cases h2 : a.2 = b.2
  ·simp [h1, h2]
  ·simp [h1, h2]
abbrev ByRows (l : List Pt2) : Prop := l.Pairwise fun a b => before a b = true
theorem before_trans {a b c : Pt2} (h1 : before a b = true) (h2 : before b c = true) : before a c = true := by
 rw [before_iff] at *; omega
theorem before_irrefl {a : Pt2} : ¬ before a a = true := by rw [before_iff]; omega
theorem before_total {a b : Pt2} (h : ¬ before a b = true) (hne : a ≠ b) : before b a = true := by
 rw [before_iff] at *
 have : ¬ (a.1 = b.1 /\ a.2 = b.2) := fun h => hne (Prod.ext h.1 h.2)
 omega
theorem ByRows.ext : ∀ {l m : List Pt2}, ByRows l -> ByRows m -> (∀ p, p ∈ l ↔ p ∈ m) -> l = m
 | [], [], _, _, _ => rfl
 | [], b :: m, _, _, h => by have := (h b).2 (by simp); simp at this
 | a :: l, [], _, _, h => by have := (h a).1 (by simp); simp at this
 | a :: l, b :: m, hl, hm, h => by
  rw [ByRows, List.pairwise_cons] at hl hm
  have hab : a = b := by
   rcases List.mem_cons.1 ((h a).1 (by simp)) with e|e
   ·exact e
   ·rcases List.mem_cons.1 ((h b).2 (by simp)) with e'|e'
    ·exact e'.symm
    ·exact absurd (before_trans (hl.1 b e') (hm.1 a e)) before_irrefl
  subst hab
  congr 1
  refine ByRows.ext hl.2 hm.2 fun p => ?_
  constructor
  ·intro hp
   rcases List.mem_cons.1 ((h p).1 (by simp [hp])) with e|e
   ·subst e; exact absurd (hl.1 p hp) before_irrefl
   ·exact e
  ·intro hp
   rcases List.mem_cons.1 ((h p).2 (by simp [hp])) with e|e
   ·subst e; exact absurd (hm.1 p hp) before_irrefl
   ·exact e
theorem posR_spec (x : Pt2) (out : List Pt2) : ∀ n, n <= out.length -> (∀ j z, posR x out n <= j -> j < n -> out[j]? = some z -> before x z = true) /\ (∀ z, 0 < posR x out n -> out[posR x out n - 1]? = some z -> ¬ before x z = true)
 | 0, _ => ⟨fun j z h1 h2 => by omega, fun z h => by simp [posR] at h⟩
 | n + 1, hn => by
  obtain ⟨z, hz⟩ : ∃ z, out[n]? = some z := ⟨_, List.getElem?_eq_getElem oM⟩
  have ih := posR_spec x out n oM
  have e : posR x out (n + 1) = if before x z = true then posR x out n else n + 1 := by simp only [posR, hz]
  rw [e]
  by_cases hb : before x z = true
  ·rw [if_pos hb]
   refine ⟨fun j y h1 h2 hy => ?_, ih.2⟩
   by_cases hj : j = n
   ·subst hj; rw [hz] at hy; obtain rfl := Option.some.inj hy; exact hb
   ·exact ih.1 j y h1 oM hy
  ·rw [if_neg hb]
   refine ⟨fun j y h1 h2 => oM, fun y _ hy => ?_⟩
   rw [Nat.add_sub_cancel, hz] at hy
   obtain rfl := Option.some.inj hy
   exact hb
theorem insP_ok {x : Pt2} {out : List Pt2} (ho : ByRows out) (hx : x ∉ out) : ByRows (insP x out) := by
 obtain ⟨h1, h2⟩ := posR_spec x out out.length (Nat.le_refl _)
 have hp := posR_le x out out.length
 generalize hP : posR x out out.length = P at h1 h2 hp
 have hsplit : out = out.take P ++ out.drop P := (List.take_append_drop P out).symm
 have hlow : ∀ z ∈ out.take P, before z x = true := fun z hz => by
  obtain ⟨j, hj⟩ := List.getElem?_of_mem hz
  rw [List.getElem?_take] at hj
  split at hj
  ·rename_i hjP
   have hP1 : P - 1 < out.length := by omega
   have hnb := h2 out[P - 1] oM (List.getElem?_eq_getElem hP1)
   have hb := before_total hnb (fun e => hx (by rw [e]; exact List.getElem_mem hP1))
   by_cases hj1 : j = P - 1
   ·subst hj1; rw [List.getElem?_eq_getElem hP1] at hj; obtain rfl := Option.some.inj hj; exact hb
   ·have hjl : j < out.length := by omega
    rw [List.getElem?_eq_getElem hjl] at hj
    obtain rfl := Option.some.inj hj
    exact before_trans (List.pairwise_iff_getElem.1 ho j (P - 1) hjl hP1 oM) hb
  ·cases hj
 have hhigh : ∀ z ∈ out.drop P, before x z = true := fun z hz => by
  obtain ⟨j, hj⟩ := List.getElem?_of_mem hz
  rw [List.getElem?_drop] at hj
  exact h1 (P + j) z oM (List.getElem?_eq_some_iff.1 hj).1 hj
 rw [hsplit, ByRows, List.pairwise_append] at ho
 rw [insP, hP, ByRows, List.append_assoc, List.pairwise_append]
 refine ⟨ho.1, ?_, fun a ha b hb => ?_⟩
 ·simp only [List.singleton_append, List.pairwise_cons]
  exact ⟨hhigh, ho.2.1⟩
 ·simp only [List.singleton_append, List.mem_cons] at hb
  rcases hb with rfl|hb
  ·exact hlow a ha
  ·exact ho.2.2 a ha b hb
theorem insP_mem {x p : Pt2} {out : List Pt2} : p ∈ insP x out ↔ p = x \/ p ∈ out := by
 simp only [insP, List.mem_append, List.mem_singleton]
 constructor
 ·rintro ((h|h)|h)
  ·exact .inr (List.mem_of_mem_take h)
  ·exact .inl h
  ·exact .inr (List.mem_of_mem_drop h)
 ·rintro (h|h)
  ·exact .inl (.inr h)
  ·rw [<- List.take_append_drop (posR x out out.length) out, List.mem_append] at h
   exact h.elim (fun h => .inl (.inl h)) .inr
theorem addP_ok {x : Pt2} {out : List Pt2} (ho : ByRows out) : ByRows (addP out x) := by
 unfold addP
 split
 ·exact ho
 ·exact insP_ok ho aM
theorem addP_mem {x p : Pt2} {out : List Pt2} : p ∈ addP out x ↔ p = x \/ p ∈ out := by
 unfold addP
 split
 ·rename_i h
  exact ⟨.inr, fun h' => h'.elim (fun e => e ▸ h) fun h => h⟩
 ·exact insP_mem
theorem sortedP_go : ∀ (l out : List Pt2), ByRows out -> ByRows (l.foldl addP out) /\ ∀ p, p ∈ l.foldl addP out ↔ p ∈ out \/ p ∈ l
 | [], out, h => ⟨h, by simp⟩
 | x :: l, out, h => by
  obtain ⟨h1, h2⟩ := sortedP_go l (addP out x) (addP_ok h)
  refine ⟨h1, fun p => ?_⟩
  rw [List.foldl_cons, h2, addP_mem, List.mem_cons]
  constructor
  ·rintro ((h|h)|h)
   ·exact .inr (.inl h)
   ·exact .inl h
   ·exact .inr (.inr h)
  ·rintro (h|h|h)
   ·exact .inl (.inr h)
   ·exact .inl (.inl h)
   ·exact .inr h
theorem sortedP_rows (l : List Pt2) : ByRows (sortedP l) := (sortedP_go l [] List.Pairwise.nil).1
theorem sortedP_mem {l : List Pt2} {p : Pt2} : p ∈ sortedP l ↔ p ∈ l := by rw [sortedP, (sortedP_go l [] List.Pairwise.nil).2]; simp
end Go.Ae

namespace Go.Ab
section
variable {p : Par} {n : Nat} {Q : Exit -> DEnv -> Bx -> Nat -> Prop} {E : DEnv} {S : Bx} {nk : Nat}
theorem ds_virtD {s : SC} (kb i esz : Nat) {l : List DC} (hk : lk S kb = some (.cells l)) (hi : l[i]? = some (.f (.c .nils))) (h : DPS p n s Q E ((nk, .data []) :: put kb (.cells (l.set i (.own nk 0 0 esz))) S) (nk + 1)) : DPS p n s Q E S nk := .mk fun Z β H F hS hE => by
 have hT := virt_ok hS
 have hB : BLe β (updB β nk .nil) := hS.ble .nil
 have hkn := hS.lt hk
 have hkT : lk ((nk, .data []) :: S) kb = some (.cells l) := by rw [lk_cons, if_neg (by omega)]; exact hk
 refine h.run Z _ H F ?_ (hE.mono (ZLe.refl Z H) hB)
 have hput : ∀ j, lk ((nk, .data []) :: put kb (.cells (l.set i (.own nk 0 0 esz))) S) j = lk (put kb (.cells (l.set i (.own nk 0 0 esz))) ((nk, .data []) :: S)) j := fun j => by
  simp only [put, beq_ne (show nk ≠ kb by omega)]
 refine ⟨hT.wf, hT.lo, hT.z, hT.zlo, hT.zz, hT.glob, hT.nk, hT.bd, fun κ y hκ => ?_, fun κ κ' y y' b N N' hj hj' => ?_, hT.blo, hT.anch, hT.ancn⟩
 ·rw [lk2_congr (hput κ.1), lk2_put hkT rfl] at hκ
  split at hκ
  ·rename_i e
   split at hκ
   ·rename_i e2
    obtain rfl := key_eq e e2
    obtain rfl := Option.some.inj hκ
    obtain ⟨s, hs, hbx⟩ := hT.box (kb, 0) _ (lk2_of hkT rfl)
    refine ⟨s, hs, ?_⟩
    cases s with
    | nil =>
     have : l = [] := List.eq_nil_of_length_eq_zero hbx
     subst this; cases hi
    | blk b N =>
     obtain ⟨g1, g2, g3, cs, rest, g4, g5, g6⟩ := hbx
     refine ⟨g1, g2, g3, cs, rest, g4, g5, ?_⟩
     obtain ⟨c, hc, hr⟩ := All2.at g6 i _ hi
     cases hr
     have hset : cs.set i .nils = cs := by
      refine List.ext_getElem? fun j => ?_
      rw [List.getElem?_set]
      split
      ·rename_i ej; subst ej; rw [hc]; first|rfl|rw [if_pos (List.getElem?_eq_some_iff.1 hc).1]
      ·rfl
     show All2 _ _ _
     rw [<- hset]
     exact All2.set g6 i (.inl ⟨updB_self _ _ _, rfl, rfl, rfl⟩)
   ·cases hκ
  ·exact hT.box κ y hκ
 ·rw [hput] at hj hj'
  rw [lk_put] at hj hj'
  have f : ∀ a z, (if a = kb then Option.map (fun _ => Bk.cells (l.set i (.own nk 0 0 esz))) (lk ((nk, .data []) :: S) a) else lk ((nk, .data []) :: S) a) = some z -> ∃ z', lk ((nk, .data []) :: S) a = some z' := fun a z hz => by
   split at hz
   ·cases hl : lk ((nk, .data []) :: S) a with
    | none => rw [hl] at hz; cases hz
    | some q => exact ⟨q, rfl⟩
   ·exact ⟨z, hz⟩
  obtain ⟨z1, e1⟩ := f κ.1 y hj
  obtain ⟨z2, e2⟩ := f κ'.1 y' hj'
  exact hT.inj κ κ' z1 z2 b N N' e1 e2
end
end Go.Ab

namespace Go.Ae
open Go.Ab Go.Proofs
set_option linter.unusedSimpArgs false
def ptV (p : Pt2) : V := .agg [.int .i64 p.1, .int .i64 p.2]
def stF : Nat -> List Pt2 -> List (V × V × Nat)
 | _, [] => []
 | i, p :: l => (ptV p, .one (.bool true), i) :: stF (i + 1) l
abbrev stE (l : List Pt2) : List (V × V × Nat) := stF 0 l
def mapB (l : List Pt2) : Bk := .mp (.st (stE l) l.length) []
theorem stF_snoc (p : Pt2) : ∀ (l : List Pt2) (i : Nat), stF i (l ++ [p]) = stF i l ++ [(ptV p, .one (.bool true), i + l.length)]
 | [], i => rfl
 | q :: l, i => by rw [List.cons_append, stF, stF_snoc p l, stF, List.cons_append, List.length_cons, show i + 1 + l.length = i + (l.length + 1) by omega]
theorem stF_mem {e : V × V × Nat} : ∀ {l : List Pt2} {i : Nat}, e ∈ stF i l ↔ ∃ (j : Nat) (p : Pt2), l[j]? = some p /\ e = (ptV p, .one (.bool true), i + j)
 | [], i => by simp [stF]
 | q :: l, i => by
  rw [stF, List.mem_cons, stF_mem]
  constructor
  ·rintro (rfl|⟨j, p, h1, rfl⟩)
   ·exact ⟨0, q, rfl, rfl⟩
   ·exact ⟨j + 1, p, h1, by rw [show i + 1 + j = i + (j + 1) by omega]⟩
  ·rintro ⟨j, p, h1, rfl⟩
   cases j with
   | zero => left; rw [<- Option.some.inj h1]; rfl
   | succ j => right; exact ⟨j, p, h1, by rw [show i + 1 + j = i + (j + 1) by omega]⟩
theorem ptEq_pt (p q : Pt2) : ptEq [.int .i64 p.1, .int .i64 p.2] (ptV q) = some (decide (p = q)) := by
 obtain ⟨a, b⟩ := p
 obtain ⟨c, d⟩ := q
 simp only [ptEq, ptV, and_self, if_true]
 congr 1
 by_cases h1 : a = c
 ·by_cases h2 : b = d
  ·simp [h1, h2]
  ·simp [h1, h2]
 ·simp [h1]
theorem sfind_pt (p : Pt2) : ∀ (l : List Pt2) (i j : Nat), (p ∉ l /\ sfind [.int .i64 p.1, .int .i64 p.2] (stF j l) i = some none) \/ ∃ k, l[k]? = some p /\ sfind [.int .i64 p.1, .int .i64 p.2] (stF j l) i = some (some (i + k))
 | [], i, j => .inl ⟨by simp, rfl⟩
 | q :: l, i, j => by
  rw [stF, sfind, ptEq_pt]
  by_cases h : p = q
  ·subst h
   right
   exact ⟨0, rfl, by simp⟩
  ·rw [decide_eq_false h]
   simp only
   rcases sfind_pt p l (i + 1) (j + 1) with ⟨h1, h2⟩|⟨k, h1, h2⟩
   ·exact .inl ⟨by simp [h, h1], h2⟩
   ·exact .inr ⟨k + 1, h1, by rw [h2, show i + 1 + k = i + (k + 1) by omega]⟩
theorem sset_same {e : List (V × V × Nat)} {k : Nat} {v : V} {x : V × V × Nat} (h : e[k]? = some x) (hv : x.2.1 = v) : sset e k v = e := by
 refine List.ext_getElem? fun j => ?_
 rw [sset, List.getElem?_modify]
 split
 ·rename_i hkj
  subst hkj
  rw [h]
  subst hv
  rfl
 ·simp
theorem stF_at {p : Pt2} : ∀ {l : List Pt2} {i k : Nat}, l[k]? = some p -> (stF i l)[k]? = some (ptV p, .one (.bool true), i + k)
 | [], _, _, h => by simp at h
 | q :: l, i, 0, h => by rw [<- Option.some.inj h]; rfl
 | q :: l, i, k + 1, h => by
  have := stF_at (l := l) (i := i + 1) (k := k) h
  rw [stF, List.getElem?_cons_succ, this, show i + 1 + k = i + (k + 1) by omega]
def putP (l : List Pt2) (p : Pt2) : List Pt2 := if p ∈ l then l else l ++ [p]
theorem stUp_pt (l : List Pt2) (p : Pt2) : stUp (stE l) l.length [.int .i64 p.1, .int .i64 p.2] (.bool true) = some (stE (putP l p), (putP l p).length) := by
 unfold stUp
 rw [show isPtL [.int .i64 p.1, .int .i64 p.2] = true from rfl]
 rcases sfind_pt p l 0 0 with ⟨h1, h2⟩|⟨k, h1, h2⟩
 ·rw [h2, putP, if_neg h1]
  show _ = some (stF 0 (l ++ [p]), (l ++ [p]).length)
  rw [stF_snoc, Nat.zero_add, List.length_append]
  rfl
 ·rw [h2, putP, if_pos (List.mem_of_getElem? h1), Nat.zero_add]
  simp only
  rw [sset_same (stF_at h1) rfl]
theorem putP_nodup {l : List Pt2} {p : Pt2} (h : l.Nodup) : (putP l p).Nodup := by
 unfold putP
 split
 ·exact h
 ·rename_i hn
  rw [List.nodup_append]
  exact ⟨h, by simp, fun a ha b hb => by
   rw [List.mem_singleton] at hb
   subst hb
   rintro rfl
   exact hn ha⟩
theorem putP_mem {l : List Pt2} {p q : Pt2} : q ∈ putP l p ↔ q ∈ l \/ q = p := by
 unfold putP
 split
 ·rename_i h
  constructor
  ·exact .inl
  ·rintro (h1|rfl)
   ·exact h1
   ·exact h
 ·simp
theorem stF_find {st : Nat} {p : Pt2} : ∀ {l : List Pt2} {i : Nat}, l[st]? = some p -> (stF i l).find? (fun e => e.2.2 == i + st) = some (ptV p, .one (.bool true), i + st) := by
 induction st with
 | zero =>
  intro l i h
  cases l with
  | nil => cases h
  | cons q l =>
   rw [<- Option.some.inj h, stF, List.find?_cons]
   simp
 | succ st ih =>
  intro l i h
  cases l with
  | nil => cases h
  | cons q l =>
   have := ih (l := l) (i := i + 1) h
   rw [stF, List.find?_cons]
   simp only [show (i == i + (st + 1)) = false by simp]
   rw [show i + 1 + st = i + (st + 1) by omega] at this
   exact this
structure Seen (l : List Pt2) (seen : List Nat) (out : List Pt2) : Prop where
 nd : seen.Nodup
 lt : ∀ i ∈ seen, i < l.length
 out : out.map some = seen.map (l[·]?)
theorem Seen.nil (l : List Pt2) : Seen l [] [] := ⟨List.nodup_nil, fun i h => (by cases h), rfl⟩
theorem Seen.step {l out : List Pt2} {seen : List Nat} {i : Nat} {p : Pt2} (h : Seen l seen out) (hi : l[i]? = some p) (hn : i ∉ seen) : Seen l (seen ++ [i]) (out ++ [p]) := by
 refine ⟨?_, fun j hj => ?_, ?_⟩
 ·rw [List.nodup_append]
  exact ⟨h.nd, by simp, fun a ha b hb => by
   rw [List.mem_singleton] at hb
   subst hb
   rintro rfl
   exact hn ha⟩
 ·rcases List.mem_append.1 hj with hj|hj
  ·exact h.lt j hj
  ·rw [List.mem_singleton] at hj
   subst hj
   exact (List.getElem?_eq_some_iff.1 hi).1
 ·rw [List.map_append, List.map_append, h.out]
  simp [hi]
theorem Seen.len {l out : List Pt2} {seen : List Nat} (h : Seen l seen out) : out.length = seen.length := by
 have := congrArg List.length h.out
 simpa using this
theorem nodup_le : ∀ (n : Nat) (s : List Nat), s.Nodup -> (∀ i ∈ s, i < n) -> s.length <= n
 | 0, s, _, h => by
  cases s with
  | nil => simp
  | cons a s => exact absurd (h a (by simp)) (by omega)
 | n + 1, s, hn, h => by
  have h1 := nodup_le n (s.filter (· ≠ n)) (hn.filter _) fun i hi => by
   rw [List.mem_filter] at hi
   have := h i hi.1
   have h2 : i ≠ n := by simpa using hi.2
   omega
  have h2 : s.length <= (s.filter (· ≠ n)).length + 1 := by
   clear h1 h
   induction s with
   | nil => simp
   | cons a s ih =>
    rw [List.nodup_cons] at hn
    by_cases ha : a = n
    ·subst ha
     have : s.filter (· ≠ a) = s := List.filter_eq_self.2 fun x hx => by
      have : x ≠ a := fun e => hn.1 (e ▸ hx)
      simpa using this
     rw [List.filter_cons_of_neg (by simp), this]
     simp
    ·rw [List.filter_cons_of_pos (by simpa using ha), List.length_cons, List.length_cons]
     have := ih hn.2
     omega
  omega
theorem Seen.le {l out : List Pt2} {seen : List Nat} (h : Seen l seen out) : out.length <= l.length := by
 rw [h.len]; exact nodup_le _ _ h.nd h.lt
theorem Seen.mem {l out : List Pt2} {seen : List Nat} (h : Seen l seen out) (hall : ∀ i, i < l.length -> i ∈ seen) (p : Pt2) : p ∈ out ↔ p ∈ l := by
 have h1 : p ∈ out ↔ some p ∈ out.map some := by simp
 rw [h1, h.out]
 constructor
 ·intro hp
  obtain ⟨i, _, hi⟩ := List.mem_map.1 hp
  exact List.mem_of_getElem? hi
 ·intro hp
  obtain ⟨i, hi⟩ := List.getElem?_of_mem hp
  exact List.mem_map.2 ⟨i, hall i (List.getElem?_eq_some_iff.1 hi).1, hi⟩
theorem Seen.nodup : ∀ {out : List Pt2} {l : List Pt2} {seen : List Nat}, l.Nodup -> Seen l seen out -> out.Nodup := by
 intro out l seen hl h
 rw [List.nodup_iff_pairwise_ne, List.pairwise_iff_getElem]
 intro i j hi hj hij he
 have hlen := h.len
 have hx : ∀ k (hk : k < out.length), l[seen[k]'oM]? = some out[k] := fun k hk => by
  have := congrArg (fun z => z[k]?) h.out
  simp only [List.getElem?_map, List.getElem?_eq_getElem hk, List.getElem?_eq_getElem (show k < seen.length by omega), Option.map_some, Option.some.injEq] at this
  exact this.symm
 have h1 := hx i hi
 have h2 := hx j hj
 rw [he] at h1
 have h4 : seen[i]'oM = seen[j]'oM := by
  have e1 := (List.getElem?_eq_some_iff.1 h1)
  have e2 := (List.getElem?_eq_some_iff.1 h2)
  obtain ⟨l1, e1⟩ := e1
  obtain ⟨l2, e2⟩ := e2
  exact (List.getElem_inj hl).1 (e1.trans e2.symm)
 have := (List.getElem_inj h.nd).1 h4
 omega
def kx (rec it : Bk) (l out : List Pt2) : Bx := [(0, mapB l), (1, .cells [.om 0]), (2, .cells [.own 6 0 out.length 2]), (6, .data (out.flatMap ptF)), (4, rec), (5, it)]
theorem yl_pt {p : Par} (hp : p.P = Tryz.prog) (hG : p.G = 1) {q : Pt2} {l out : List Pt2} {it : Bk} (hn : out.length < 1000000) {fid : FuncId} {sg bd : Code} (hsg : cpCode Tryz.prog 1 f93.n sg = some (.ops f93r2 0)) (hbd : cpCode Tryz.prog 1 f93.n bd = some f93b0)
  {base rs : Nat} {Q : DEnv -> Bx -> Nat -> Prop} {r : List SOper} {A : List Nat} {E : DEnv} {S : Bx} {nk : Nat} {id : Nat} {dst : Option Nat} {aid : Option Nat} {ws : List Nat} {keep : Bool} {x y : Opd}
  (hnk : nk = 8) (hS : SubA (kx (.mp (.lp .ready none fid f93.n [2] [7] sg bd) [.ptr 2 0]) it l out) S)
  (hx : ro E x = some (.one (.yl 4))) (hvs : ros E [y] = some [ptD q]) (hT : noT E = true)
  (h : DPW p base 0 Q r [] A (setD E dst (.bool true)) [(0, mapB l), (1, .cells [.om 0]), (2, .cells [.own 10 0 (out ++ [q]).length 2]), (10, .data ((out ++ [q]).flatMap ptF)), (4, .mp (.lp .ready none fid f93.n [2] [7] sg bd) [.ptr 2 0]), (5, it)] 11) :
  DPW p base rs Q (⟨id, dst, .cv x [y], none, aid, ws, keep⟩ :: r) [] A E S nk := by
 subst hnk
 have h4 : lk S 4 = some (.mp (.lp .ready none fid f93.n [2] [7] sg bd) [.ptr 2 0]) := hS 4 _ rfl
 refine dw_yl (R := fun d S' nk' => d = .bool true /\ SubA [(0, mapB l), (1, .cells [.om 0]), (2, .cells [.own 10 0 (out ++ [q]).length 2]), (10, .data ((out ++ [q]).flatMap ptF)), (4, .mp (.lp .ready none fid f93.n [2] [7] sg bd) [.ptr 2 0]), (5, it)] S' /\ nk' = 11) hx hvs h4 rfl rfl hT (by rw [hp, hG]; exact hsg) (by rw [hp, hG]; exact hbd) (fun ρ Z β H => ?_) (by rintro _ _ _ ⟨rfl, hs, rfl⟩; exact dw_keep (SubA.refl _) hs h)
 have mixp : (p.round ρ Z 8 β H).P.follows .mixedOrders = true := by show p.P.follows _ = _; rw [hp]; exact mix
 refine ds_keep (E0 := [(2, .one (.ptr 2 0)), (7, ptD q)]) (S0 := kx (.mp (.lp .ready none fid f93.n [2] [7] sg bd) [.ptr 2 0]) it l out) (SubA.cons rfl (SubA.cons rfl (SubA.nil _))) hS ?_
 have hfl := ptF_len out
 refine ds_ops mixp (fun base => ?_)
 refine goD ?_; intros
 refine ⟨rfl, _, _, _, _, _, _, _, _, _, rfl, rfl, ?_⟩
 refine ds_block ?_
 refine ds_ops mixp (fun base => ?_)
 refine goD ?_; intros
 refine dw_app (q := ptF q) rfl rfl rfl (subL_all _ hfl) ⟨rfl, rfl, _, rfl, rfl⟩ oM oM (by decide) rfl ?_
 rw [show out.flatMap ptF ++ ptF q = (out ++ [q]).flatMap ptF by simp, show out.length + 1 = (out ++ [q]).length by simp]
 refine goD ?_; intros
 exact ⟨_, _, _, _, _, _, _, _, _, rfl, rfl, SubA.cons rfl (SubA.cons rfl (SubA.cons rfl (SubA.cons rfl (SubA.cons rfl (SubA.cons rfl (SubA.nil _)))))), rfl⟩
set_option maxHeartbeats 4000000 in
theorem x_keys {l : List Pt2} (hl : l.Nodup) (hn : l.length < 1000000) {fid : FuncId} {sg bd : Code} (hsg : cpCode Tryz.prog 1 f93.n sg = some (.ops f93r2 0)) (hbd : cpCode Tryz.prog 1 f93.n bd = some f93b0) :
  DKX 86 [.one (.yl 4), .one (.ptr 1 0)] [(0, mapB l), (1, .cells [.om 0]), (2, .cells [.own 3 0 0 2]), (3, .data []), (4, .mp (.lp .ready none fid f93.n [2] [7] sg bd) [.ptr 2 0])] 5
  fun _ S' nk' => ∃ out : List Pt2, out.Nodup /\ (∀ p, p ∈ out ↔ p ∈ l) /\ out.length <= l.length /\ SubA [(0, mapB l), (1, .cells [.om 0]), (2, .cells [.own 6 0 out.length 2]), (6, .data (out.flatMap ptF)), (4, .mp (.lp .ready none fid f93.n [2] [7] sg bd) [.ptr 2 0])] S' /\ nk' = 7 := by
 refine dxk_ok cp86 rfl fun Z β H lo => ?_
 refine goD ?_; intros
 refine dw_rng rfl rfl ?_
 refine goD ?_; intros
 refine ds_loop (fun m E S nk => ∃ (seen : List Nat) (out : List Pt2) (last : Nat), seen.length + m = l.length /\ Seen l seen out /\ l.length <= last /\ E = [(0, .one (.yl 4)), (5, .one (.ptr 5 0))] /\ S = kx (.mp (.lp .ready none fid f93.n [2] [7] sg bd) [.ptr 2 0]) (.mp (.it l.length seen last) [.om 0]) l out /\ nk = 7)
  ⟨l.length, _, _, _, [(6, 3)], ?wk, [], [], l.length, by simp, Seen.nil l, Nat.le_refl _, rfl, rfl, rfl⟩ ?_
 case wk => exact wkA
 rintro m E S nk ⟨seen, out, last, hm, hsn, hla, rfl, rfl, rfl⟩
 have hole := hsn.le
 refine goD ?_; intros
 refine dw_nx rfl rfl rfl (fun e he => ?_) hla rfl (fun hall => ?_) (fun e he hno => ?_)
 ·obtain ⟨j, p, h1, rfl⟩ := stF_mem.1 he
  have := (List.getElem?_eq_some_iff.1 h1).1
  simp only; omega
 ·refine goD ?_; intros
  refine ds_if (t := false) rfl (fun ht => by cases ht) (fun _ => ?_)
  refine goD ?_; intros
  refine ⟨_, rfl, rfl, _, SubA.refl _, out, hsn.nodup hl, hsn.mem fun i hi => ?_, hole, SubA.cons rfl (SubA.cons rfl (SubA.cons rfl (SubA.cons rfl (SubA.cons rfl (SubA.nil _))))), rfl⟩
  obtain ⟨p, hp⟩ : ∃ p, l[i]? = some p := ⟨_, List.getElem?_eq_getElem hi⟩
  have := hall _ (stF_mem.2 ⟨i, p, hp, rfl⟩)
  simpa using this
 ·obtain ⟨i, p, hp, rfl⟩ := stF_mem.1 he
  rw [Nat.zero_add] at hno ⊢
  simp only at hno ⊢
  have hfd := stF_find (i := 0) hp
  rw [Nat.zero_add] at hfd
  refine goD ?_; intros
  refine ds_if (t := true) rfl (fun _ => ?_) (fun ht => by cases ht)
  refine goD ?_; intros
  refine dw_ent rfl rfl rfl rfl hfd rfl rfl ?_
  refine goD ?_; intros
  have hle2 := (hsn.step hp hno).le
  have hln2 := hsn.len
  rw [List.length_append, List.length_singleton] at hle2
  refine yl_pt rfl rfl (q := p) (l := l) (out := out) (it := .mp (.it l.length (seen ++ [i]) l.length) [.om 0]) oM hsg hbd rfl (SubA.cons rfl (SubA.cons rfl (SubA.cons rfl (SubA.cons rfl (SubA.cons rfl (SubA.cons rfl (SubA.nil _))))))) rfl rfl rfl ?_
  refine goD ?_; intros
  refine ds_if (t := false) rfl (fun ht => by cases ht) (fun _ => ?_)
  refine goD ?_; intros
  refine ⟨m - 1, by omega, _, _, _, [(6, 10)], ?wk2, seen ++ [i], out ++ [p], l.length, by rw [List.length_append, List.length_singleton]; omega, hsn.step hp hno, Nat.le_refl _, rfl, rfl, rfl⟩
  case wk2 => exact wkA
theorem DX.sub {p : Par} {f : FuncId} {ds : List DV} {S S0 : Bx} {nk : Nat} {R : DV -> Bx -> Nat -> Prop} (h : DX p f ds S0 nk R) (hs : SubA S0 S) : DX p f ds S nk R := fun Z β H args hS ha => h Z β H args (hS.keepS hs) ha
theorem x_app {l : List Pt2} (hl : l.Nodup) (hn : l.length < 1000000) : DKX 93 [.one (.f (.c .nils)), .one (.fn 86 [(1, 0)])] [(0, mapB l), (1, .cells [.om 0])] 2
  fun d S' nk' => ∃ out : List Pt2, out.Nodup /\ (∀ p, p ∈ out ↔ p ∈ l) /\ d = .one (.own 6 0 out.length 2) /\ out.length <= l.length /\ SubA [(6, .data (out.flatMap ptF))] S' /\ nk' = 7 := by
 refine dxk_ok cp93 rfl fun Z β H lo => ?_
 refine goD ?_; intros
 refine ds_virtD 2 0 2 rfl rfl ?_
 refine ds_rf rfl [2] rfl (by show isFn Tryz.prog 86 = true; kernel_rfl) rfl rfl (fun fid sg bd hsg hbd => ?_)
 refine DX.sub (S0 := [(0, mapB l), (1, .cells [.om 0]), (2, .cells [.own 3 0 0 2]), (3, .data []), (4, .mp (.lp .ready none fid f93.n [2] [7] sg bd) [.ptr 2 0])]) ((x_keys hl hn hsg hbd _ _ _ _ _).mono ?_) (SubA.cons rfl (SubA.cons rfl (SubA.cons rfl (SubA.cons rfl (SubA.cons rfl (SubA.nil _))))))
 rintro _ S' nk' ⟨out, h1, h2, h3, h4, rfl⟩
 refine ⟨_, _, _, _, _, _, _, _, _, h4 4 _ rfl, by simp, ?_⟩
 have h5 : SubA [(2, .cells [.own 6 0 out.length 2]), (6, .data (out.flatMap ptF))] (era 4 S') := SubA.cons (((lk_era _ _ _).trans (if_neg (by decide))).trans (h4 2 _ rfl)) (SubA.cons (((lk_era _ _ _).trans (if_neg (by decide))).trans (h4 6 _ rfl)) (SubA.nil _))
 refine ds_keep (E0 := [(2, .one (.ptr 2 0))]) (SubA.cons rfl (SubA.nil _)) h5 ?_
 refine goD ?_; intros
 exact ds_ret ⟨_, rfl, rfl, _, SubA.refl _, out, h1, h2, rfl, h3, SubA.cons rfl (SubA.nil _), rfl⟩
theorem x_coll {l : List Pt2} (hl : l.Nodup) (hn : l.length < 1000000) : DKX 84 [.one (.fn 86 [(1, 0)])] [(0, mapB l), (1, .cells [.om 0])] 2
  fun d S' nk' => ∃ out : List Pt2, out.Nodup /\ (∀ p, p ∈ out ↔ p ∈ l) /\ d = .one (.own 6 0 out.length 2) /\ out.length <= l.length /\ SubA [(6, .data (out.flatMap ptF))] S' /\ nk' = 7 := by
 refine dxk_ok cp84 rfl fun Z β H lo => ?_
 refine goD ?_; intros
 refine dw_cx rfl rfl rfl (x_app hl hn _ _ _ _ _) ?_
 rintro _ S' _ ⟨out, h1, h2, rfl, h3, h4, rfl⟩
 refine dw_keep (SubA.refl _) h4 ?_
 refine goD ?_; intros
 exact ds_ret ⟨_, rfl, rfl, _, SubA.refl _, out, h1, h2, rfl, h3, SubA.refl _, rfl⟩
theorem x_mkeys (l : List Pt2) : DKX 68 [.one (.om 0)] [(0, mapB l)] 1 fun d S' nk' => d = .one (.fn 86 [(1, 0)]) /\ SubA [(0, mapB l), (1, .cells [.om 0])] S' /\ nk' = 2 := by
 refine dxk_ok cp68 rfl fun Z β H lo => ?_
 refine goD ?_; intros
 exact ds_ret ⟨_, rfl, rfl, _, SubA.refl _, rfl, SubA.cons rfl (SubA.cons rfl (SubA.nil _)), rfl⟩
theorem d_nan (a : Int) : DCalls Tryz.prog 1 ⟨.lf, 1⟩ 87 [.int a] fun d => d = .bool false := by
 refine dfn_ok cp87 rfl noro fun Z0 lo => ?_
 refine goD ?_; intros
 refine ds_ret ⟨_, rfl, rfl, ?_⟩
 simp
def cmpI (a b : Int) : Int := if a < b then -1 else if b < a then 1 else 0
theorem d_cmpI (a b : Int) : DCalls Tryz.prog 1 ⟨.lf, 1⟩ 71 [.int a, .int b] fun d => d = .int (cmpI a b) := by
 refine dfn_ok cp71 rfl noro fun Z0 lo => ?_
 refine goD ?_; intros
 refine dw_cf rfl rfl (d_nan a) ?_
 rintro _ rfl
 refine goD ?_; intros
 refine dw_cf rfl rfl (d_nan b) ?_
 rintro _ rfl
 refine goD ?_; intros
 refine ds_if rfl (fun ht => by cases ht) (fun _ => ?_)
 refine goD ?_; intros
 refine ds_if rfl (fun ht => by cases ht) (fun _ => ?_)
 refine goD ?_; intros
 refine ds_if rfl (fun ht => ?_) (fun ht => ?_)
 ·have h : a < b := by simpa using ht
  refine goD ?_; intros
  exact ds_ret ⟨_, rfl, rfl, by rw [cmpI, if_pos h]⟩
 ·have h : ¬ a < b := by simpa using ht
  refine goD ?_; intros
  refine ds_if rfl (fun ht => ?_) (fun ht => ?_)
  ·have h2 : b < a := by simpa using ht
   refine goD ?_; intros
   exact ds_ret ⟨_, rfl, rfl, by rw [cmpI, if_neg h, if_pos h2]⟩
  ·have h2 : ¬ b < a := by simpa using ht
   refine goD ?_; intros
   exact ds_ret ⟨_, rfl, rfl, by rw [cmpI, if_neg h, if_neg h2]⟩
theorem d_or (a b : Int) : DCalls Tryz.prog 1 ⟨.lf, 1⟩ 70 [.one (.f (.sl 1 2 [.c (.int .i64 a), .c (.int .i64 b)]))] fun d => d = .int (if a = 0 then b else a) := by
 refine dfn_ok cp70 rfl noro fun Z0 lo => ?_
 refine goD ?_; intros
 refine ds_loop (fun k E S nk => ∃ i : Nat, i + k = 2 /\ (i = 1 -> a = 0) /\ (i = 2 -> a = 0 /\ b = 0) /\ E = [(3, .int 0), (6, .one (.f (.sl 1 2 [.c (.int .i64 a), .c (.int .i64 b)]))), (7, .int 2), (8, .int i)] /\ S = [] /\ nk = 0) ⟨2, _, _, _, [], ?wk, 0, rfl, by simp, by simp, rfl, rfl, rfl⟩ ?_
 case wk => exact wkA
 rintro k E S nk ⟨i, hi, h1, h2, rfl, rfl, rfl⟩
 have e0 : subL [FD.c (.int .i64 a), FD.c (.int .i64 b)] (0 * 1) 1 = some [.c (.int .i64 a)] := rfl
 have e1 : subL [FD.c (.int .i64 a), FD.c (.int .i64 b)] (1 * 1) 1 = some [.c (.int .i64 b)] := rfl
 match i, hi with
 | 0, _ =>
  refine goD ?_; intros
  refine ds_if rfl (fun _ => ?_) (fun ht => by cases ht)
  refine goD ?_; intros
  refine ds_if rfl (fun ht => ?_) (fun ht => ?_)
  ·have h : ¬ a = 0 := by simpa using ht
   refine goD ?_; intros
   exact ds_ret ⟨_, rfl, rfl, by rw [if_neg h]⟩
  ·have h : a = 0 := by simpa using ht
   refine goD ?_; intros
   refine ⟨k - 1, by omega, _, _, _, [], ?wk1, 1, by omega, fun _ => h, by simp, rfl, rfl, rfl⟩
   case wk1 => exact wkA
 | 1, _ =>
  have h := h1 rfl
  refine goD ?_; intros
  refine ds_if rfl (fun _ => ?_) (fun ht => by cases ht)
  refine goD ?_; intros
  refine ds_if rfl (fun ht => ?_) (fun ht => ?_)
  ·refine goD ?_; intros
   exact ds_ret ⟨_, rfl, rfl, by rw [if_pos h]⟩
  ·have h' : b = 0 := by simpa using ht
   refine goD ?_; intros
   refine ⟨k - 1, by omega, _, _, _, [], ?wk2, 2, by omega, by simp, fun _ => ⟨h, h'⟩, rfl, rfl, rfl⟩
   case wk2 => exact wkA
 | 2, _ =>
  obtain ⟨h, h'⟩ := h2 rfl
  refine goD ?_; intros
  refine ds_if rfl (fun ht => by cases ht) (fun _ => ?_)
  refine goD ?_; intros
  exact ds_ret ⟨_, rfl, rfl, by rw [if_pos h, h']⟩
 | i + 3, h => omega
theorem cmpI_or (a b : Pt2) : (if cmpI a.2 b.2 = 0 then cmpI a.1 b.1 else cmpI a.2 b.2) = cmpP a b := by
 obtain ⟨a1, a2⟩ := a
 obtain ⟨b1, b2⟩ := b
 unfold cmpI cmpP before
 rcases Int.lt_trichotomy a2 b2 with h|h|h
 ·have h1 : ¬ b2 < a2 := by omega
  simp [h]
 ·subst h
  rcases Int.lt_trichotomy a1 b1 with h|h|h
  ·simp [h]
  ·subst h; simp
  ·have h1 : ¬ a1 < b1 := by omega
   have h2 : ¬ a1 = b1 := by omega
   simp [h, h1, h2]
 ·have h1 : ¬ a2 < b2 := by omega
  have h2 : ¬ a2 = b2 := by omega
  simp [h, h1, h2]
theorem d_cmp75 (a b : Pt2) : DCalls Tryz.prog 1 ⟨.lf, 1⟩ 69 [ptD a, ptD b] fun d => d = .int (cmpP a b) := by
 refine dfn_ok cp69 rfl noro fun Z0 lo => ?_
 refine goD ?_; intros
 refine dw_cf rfl rfl (d_cmpI a.2 b.2) ?_
 rintro _ rfl
 refine goD ?_; intros
 refine dw_cf rfl rfl (d_cmpI a.1 b.1) ?_
 rintro _ rfl
 refine goD ?_; intros
 refine dw_cfo (ds := [.one (.f (.sl 1 2 [.c (.int .i64 (cmpI a.2 b.2)), .c (.int .i64 (cmpI a.1 b.1))]))]) rfl ⟨⟨_, rfl, _, _, rfl, rfl, rfl⟩, trivial⟩ (d_or (cmpI a.2 b.2) (cmpI a.1 b.1)) (by rintro _ rfl; rfl) ?_
 rintro _ rfl
 refine goD ?_; intros
 refine ds_ret ⟨_, rfl, rfl, ?_⟩
 rw [cmpI_or]
theorem cmp69 : CmpAt 69 := cmpAt (enters_of Tryz.func69 (by kernel_rfl) rfl) fun a b => d_cmp75 a b
abbrev DKO (f : FuncId) (ds : List DV) (R : DV -> Bx -> Nat -> Prop) : Prop := DCallsO Tryz.prog 1 (H00 1) f ds R
def side (w : Int) : Int := min (max w 0) 200
def iF (x : Int) : FD := .c (.int .i64 x)
theorem iF_at {l : List Int} {i : Nat} {x : Int} (h : l[i]? = some x) : subL (l.map iF) (i * 1) 1 = some [iF x] := by
 have hi : i < l.length := (List.getElem?_eq_some_iff.1 h).1
 rw [subL_of (by simp; omega)]
 rw [Nat.mul_one, List.drop_eq_getElem_cons (by simpa using hi)]
 have : l[i] = x := (List.getElem?_eq_some_iff.1 h).2
 simp [this]
theorem far_nonneg (p q : Pt2) : 0 <= far p q := by simp only [far]; omega
theorem far_comm (p q : Pt2) : far p q = far q p := by simp only [far]; omega
theorem far_zero (p q : Pt2) : far p q = 0 ↔ p = q := by
 obtain ⟨p1, p2⟩ := p
 obtain ⟨q1, q2⟩ := q
 simp only [far, Prod.mk.injEq]
 omega
theorem mem_fars {a b : List Pt2} {z : Int} : z ∈ fars a b ↔ ∃ x ∈ a, ∃ y ∈ b, far x y = z := by simp [fars]
theorem dist_spec {a b : List Pt2} (ha : a ≠ []) (hb : b ≠ []) : (∃ x ∈ a, ∃ y ∈ b, far x y = dist a b) /\ ∀ x ∈ a, ∀ y ∈ b, dist a b <= far x y := by
 obtain ⟨p, a', rfl⟩ := List.exists_cons_of_ne_nil ha
 obtain ⟨q, b', rfl⟩ := List.exists_cons_of_ne_nil hb
 have hd : dist (p :: a') (q :: b') = (fars (p :: a') (q :: b')).foldl min (far p q) := rfl
 refine ⟨?_, fun x hx y hy => ?_⟩
 ·rcases foldl_min_mem (fars (p :: a') (q :: b')) (far p q) with h|h
  ·exact ⟨p, by simp, q, by simp, by rw [hd, h]⟩
  ·exact mem_fars.1 (hd ▸ h)
 ·rw [hd]
  exact (foldl_min_le _ _).2 _ (mem_fars.2 ⟨x, hx, y, hy, rfl⟩)
theorem dist_comm (a b : List Pt2) : dist a b = dist b a := by
 by_cases ha : a = []
 ·subst ha; cases b <;> rfl
 ·by_cases hb : b = []
  ·subst hb; cases a <;> rfl
  ·obtain ⟨⟨x, hx, y, hy, h⟩, h1⟩ := dist_spec ha hb
   obtain ⟨⟨x', hx', y', hy', h'⟩, h2⟩ := dist_spec hb ha
   have g1 := h1 y' hy' x' hx'
   have g2 := h2 y hy x hx
   rw [far_comm] at g1 g2
   omega
end Go.Ae

namespace Go.Ae
open Go.Ab
inductive Conn (gap : Int) (rest : List Pt2) (p : Pt2) : Pt2 -> Prop
 | base : p ∈ rest -> Conn gap rest p p
 | step {x y : Pt2} : Conn gap rest p x -> y ∈ rest -> far x y <= gap -> Conn gap rest p y
def minus (l c : List Pt2) : List Pt2 := l.filter fun x => !decide (x ∈ c)
theorem minus_mem {l c : List Pt2} {x : Pt2} : x ∈ minus l c ↔ x ∈ l /\ x ∉ c := by simp [minus]
inductive ClS (gap : Int) : List Pt2 -> List (List Pt2) -> Prop
 | nil : ClS gap [] []
 | cons {p : Pt2} {r c : List Pt2} {cs : List (List Pt2)} : ByRows c -> (∀ x, x ∈ c ↔ Conn gap (p :: r) p x) -> ClS gap (minus (p :: r) c) cs -> ClS gap (p :: r) (c :: cs)
theorem ClS.uniq {gap : Int} {l : List Pt2} {a b : List (List Pt2)} (ha : ClS gap l a) (hb : ClS gap l b) : a = b := by
 induction ha generalizing b with
 | nil => cases hb; rfl
 | cons h1 h2 h3 ih =>
  cases hb with
  | cons g1 g2 g3 =>
   have e := ByRows.ext h1 g1 fun p => (h2 p).trans (g2 p).symm
   subst e
   rw [ih g3]
theorem Conn.mem {gap : Int} {rest : List Pt2} {p x : Pt2} (h : Conn gap rest p x) : x ∈ rest := by
 cases h with
 | base h => exact h
 | step _ h _ => exact h
theorem conn_closed {gap : Int} {rest one : List Pt2} {p : Pt2} (hp : p ∈ one) (hc : ∀ x ∈ one, Conn gap rest p x) (hcl : ∀ x ∈ one, ∀ y ∈ rest, far x y <= gap -> y ∈ one) (x : Pt2) : x ∈ one ↔ Conn gap rest p x := by
 constructor
 ·exact hc x
 ·intro h
  induction h with
  | base _ => exact hp
  | step _ h2 h3 ih => exact hcl _ ih _ h2 h3
theorem ByRows.filter {l : List Pt2} (h : ByRows l) (f : Pt2 -> Bool) : ByRows (l.filter f) := List.Pairwise.filter f h
theorem ByRows.minus {l : List Pt2} (h : ByRows l) (c : List Pt2) : ByRows (minus l c) := h.filter _
theorem ByRows.nodup {l : List Pt2} (h : ByRows l) : l.Nodup := by
 refine List.Pairwise.imp ?_ h
 intro a b hab e
 subst e
 exact before_irrefl hab
theorem minus_len {p : Pt2} {r c : List Pt2} (hp : p ∈ c) : (minus (p :: r) c).length <= r.length := by
 unfold minus
 rw [List.filter_cons, if_neg (by simp [hp])]
 exact List.length_filter_le _ _
theorem sub_len : ∀ {a b : List Pt2}, a.Nodup -> (∀ x ∈ a, x ∈ b) -> a.length <= b.length
 | [], b, _, _ => Nat.zero_le _
 | x :: a, b, hn, h => by
  rw [List.nodup_cons] at hn
  have hx := h x (by simp)
  have := sub_len (a := a) (b := b.erase x) hn.2 fun y hy => by
   rw [List.mem_erase_of_ne (fun e => hn.1 (by rw [<- e]; exact hy))]
   exact h y (by simp [hy])
  rw [List.length_erase_of_mem hx] at this
  have hpos : 0 < b.length := List.length_pos_of_mem hx
  simp only [List.length_cons]; omega
theorem dist_one {one : List Pt2} (h : one ≠ []) (y : Pt2) {gap : Int} : dist one [y] <= gap ↔ ∃ x ∈ one, far x y <= gap := by
 obtain ⟨⟨x, hx, z, hz, he⟩, h2⟩ := dist_spec h (b := [y]) (by simp)
 simp only [List.mem_singleton] at hz
 subst hz
 constructor
 ·intro hg; exact ⟨x, hx, oM⟩
 ·rintro ⟨w, hw, hg⟩
  have := h2 w hw z (by simp)
  omega
end Go.Ae

namespace Go.Ae
open Go.Ab Go.Proofs
set_option linter.unusedSimpArgs false
def accS (o d : Int) : Int := if o < 0 \/ d < o then d else o
theorem acc_min : ∀ (L : List Int) (o : Int), 0 <= o -> (∀ d ∈ L, 0 <= d) -> L.foldl accS o = L.foldl min o
 | [], _, _, _ => rfl
 | d :: L, o, ho, hL => by
  have hd := hL d (by simp)
  simp only [List.foldl_cons]
  have e : accS o d = min o d := by unfold accS; split <;> omega
  rw [e]
  exact acc_min L (min o d) (by omega) fun x hx => hL x (by simp [hx])
theorem acc_dist (a b : List Pt2) : (fars a b).foldl accS (-1) = dist a b := by
 by_cases ha : a = []
 ·subst ha; simp [fars, dist]
 ·by_cases hb : b = []
  ·subst hb
   obtain ⟨p, a', rfl⟩ := List.exists_cons_of_ne_nil ha
   have : ∀ l : List Pt2, fars l [] = [] := fun l => by simp [fars]
   rw [this]; rfl
  ·obtain ⟨p, a', rfl⟩ := List.exists_cons_of_ne_nil ha
   obtain ⟨q, b', rfl⟩ := List.exists_cons_of_ne_nil hb
   have hd : dist (p :: a') (q :: b') = (fars (p :: a') (q :: b')).foldl min (far p q) := rfl
   have hnn : ∀ d ∈ fars (p :: a') (q :: b'), 0 <= d := fun d hd => by
    obtain ⟨x, _, y, _, rfl⟩ := mem_fars.1 hd
    exact far_nonneg x y
   have hf : ∃ L, fars (p :: a') (q :: b') = far p q :: L := ⟨_, by simp [fars]; rfl⟩
   obtain ⟨L, hL⟩ := hf
   rw [hd]
   rw [hL] at hnn ⊢
   simp only [List.foldl_cons]
   rw [show accS (-1) (far p q) = far p q by simp [accS], show min (far p q) (far p q) = far p q by omega]
   exact acc_min L _ (far_nonneg p q) fun x hx => hnn x (by simp [hx])
set_option maxHeartbeats 4000000 in
theorem d_rdistance {a b : List Pt2} (ha : Smalls a) (hb : Smalls b) (hn : a.length < 1000000) (hm : b.length < 1000000) : DK 39 [ptsD a, ptsD b] fun d => d = .int (dist a b) := by
 refine dfn_ok cp39 rfl GHro fun Z0 lo => ?_
 refine goD ?_; intros
 refine ds_loop (fun m E S nk => ∃ k : Nat, k + m = a.length /\ E = [(0, ptsD a), (1, ptsD b), (5, .int ((fars (a.take k) b).foldl accS (-1))), (6, .int k)] /\ S = [] /\ nk = 0) ⟨a.length, _, _, _, [], ?wk, 0, oM, rfl, rfl, rfl⟩ ?_
 case wk => exact wkA
 rintro m E S nk ⟨k, hk, rfl, rfl, rfl⟩
 refine goD ?_; intros
 refine ds_if rfl (fun ht => ?_) (fun ht => ?_)
 ·simp at ht
  obtain ⟨p, hp⟩ : ∃ q, a[k]? = some q := ⟨_, List.getElem?_eq_getElem oM⟩
  have e3 := ptF_at hp
  have hps := ha p (List.mem_of_getElem? hp)
  refine goD ?_; intros
  refine ds_loop (fun m E S nk => ∃ j : Nat, j + m = b.length /\ E = [(0, ptsD a), (1, ptsD b), (5, .int (((b.take j).map (far p)).foldl accS ((fars (a.take k) b).foldl accS (-1)))), (6, .int k), (7, .int j)] /\ S = [] /\ nk = 0) ⟨b.length, _, _, _, [], ?wk2, 0, oM, rfl, rfl, rfl⟩ ?_
  case wk2 => exact wkA
  rintro m2 E S nk ⟨j, hj, rfl, rfl, rfl⟩
  refine goD ?_; intros
  refine ds_if rfl (fun ht2 => ?_) (fun ht2 => ?_)
  ·simp at ht2
   obtain ⟨q, hq⟩ : ∃ q, b[j]? = some q := ⟨_, List.getElem?_eq_getElem oM⟩
   have e4 := ptF_at hq
   have hqs := hb q (List.mem_of_getElem? hq)
   have hD : ((b.take (j + 1)).map (far p)).foldl accS ((fars (a.take k) b).foldl accS (-1)) = accS (((b.take j).map (far p)).foldl accS ((fars (a.take k) b).foldl accS (-1))) (far p q) := by
    rw [List.take_add_one, hq]
    simp
   refine goD ?_; intros
   refine dw_cf rfl rfl (d_far (p := p) (q := q) hps hqs) ?_
   rintro _ rfl
   generalize ((b.take j).map (far p)).foldl accS ((fars (a.take k) b).foldl accS (-1)) = o at *
   refine goD ?_; intros
   refine ds_if rfl (fun ht3 => ?_) (fun ht3 => ?_)
   ·have hc : accS o (far p q) = far p q := by unfold accS; simp at ht3; rw [if_pos (by omega)]
    rw [hc] at hD
    refine goD ?_; intros
    refine ⟨m2 - 1, oM, _, _, _, [], ?wk3, j + 1, oM, rfl, rfl, rfl⟩
    case wk3 => rw [hD]; exact wkA
   ·have hc : accS o (far p q) = o := by unfold accS; simp at ht3; rw [if_neg (by omega)]
    rw [hc] at hD
    refine goD ?_; intros
    refine ⟨m2 - 1, oM, _, _, _, [], ?wk3, j + 1, oM, rfl, rfl, rfl⟩
    case wk3 => rw [hD]; exact wkA
  ·simp at ht2
   obtain rfl : j = b.length := by omega
   refine goD ?_; intros
   have hD : ((b.take b.length).map (far p)).foldl accS ((fars (a.take k) b).foldl accS (-1)) = (fars (a.take (k + 1)) b).foldl accS (-1) := by
    rw [List.take_add_one, hp, List.take_length]
    simp [fars]
   rw [hD]
   refine ⟨m - 1, oM, _, _, _, [], ?wk3, k + 1, oM, rfl, rfl, rfl⟩
   case wk3 => exact wkA
 ·simp at ht
  obtain rfl : k = a.length := by omega
  refine goD ?_; intros
  refine ds_ret ⟨_, rfl, rfl, ?_⟩
  rw [List.take_length, acc_dist]
def ptsF (l : List Pt2) : FD := .sl 2 l.length (l.flatMap ptF)
def ptssD (cs : List (List Pt2)) : DV := .one (.f (.sl 1 cs.length (cs.map ptsF)))
theorem ptsF_at {cs : List (List Pt2)} {i : Nat} {c : List Pt2} (h : cs[i]? = some c) : subL (cs.map ptsF) (i * 1) 1 = some [ptsF c] := by
 have hi : i < cs.length := (List.getElem?_eq_some_iff.1 h).1
 rw [subL_of (by simp; omega)]
 rw [Nat.mul_one, List.drop_eq_getElem_cons (by simpa using hi)]
 have : cs[i] = c := (List.getElem?_eq_some_iff.1 h).2
 simp [this]
set_option maxHeartbeats 8000000 in
theorem d_rclusters {l : List Pt2} {gap : Int} (hs : Smalls l) (hn : l.length < 100000) : DK 23 [ptsD l, .int gap] fun d => ∃ cs, d = ptssD cs /\ ClS gap (sortedP l) cs := by
 have hsl : (sortedP l).length < 100000 := by
  have := sub_len (sortedP_rows l).nodup (fun x hx => sortedP_mem.1 hx)
  omega
 have hss : Smalls (sortedP l) := fun x hx => hs x (sortedP_mem.1 hx)
 refine dfn_ok cp23 rfl GHro fun Z0 lo => ?_
 refine goD ?_; intros
 refine dw_cf rfl rfl (d_sorted oM) ?_
 rintro _ rfl
 refine goD ?_; intros
 refine ds_keep (SubA.cons (k := 1) rfl (SubA.cons (k := 5) rfl (SubA.cons (k := 6) rfl (SubA.nil _)))) (SubA.refl _) ?_
 refine ds_loop (fun m E S nk => ∃ rest out, m = rest.length /\ ByRows rest /\ (∀ x ∈ rest, x ∈ sortedP l) /\ out.length + rest.length <= (sortedP l).length /\ (∀ cs, ClS gap rest cs -> ClS gap (sortedP l) (out ++ cs)) /\ E = [(1, .int gap), (5, ptsD rest), (6, .one (.own 0 0 out.length 1))] /\ S = [(0, .data (out.map ptsF))] /\ nk = 1) ⟨(sortedP l).length, _, _, _, [], ?wk, sortedP l, [], rfl, sortedP_rows l, fun x h => h, by simp, fun cs h => h, rfl, rfl, rfl⟩ ?_
 case wk => exact wkA
 rintro m E S nk ⟨rest, out, hm, hrows, hsub, hout, hcls, rfl, rfl, rfl⟩
 have hrl : rest.length < 100000 := by omega
 have hol : (out.map ptsF).length = out.length * 1 := by simp
 have hrs : Smalls rest := fun x hx => hss x (hsub x hx)
 refine goD ?_; intros
 refine ds_if rfl (fun ht => ?_) (fun ht => ?_)
 ·simp at ht
  obtain ⟨p, r, rfl⟩ : ∃ p r, rest = p :: r := by
   cases rest with
   | nil => simp at ht
   | cons p r => exact ⟨p, r, rfl⟩
  have e0 := ptF_at (l := p :: r) (i := 0) (x := p) rfl
  obtain ⟨N, hN⟩ : ∃ N, (p :: r).length = N := ⟨_, rfl⟩
  refine goD ?_; intros
  refine ds_keep (SubA.cons (k := 1) rfl (SubA.cons (k := 5) rfl (SubA.cons (k := 6) rfl (SubA.cons (k := 7) rfl (SubA.cons (k := 8) rfl (SubA.nil _)))))) (SubA.refl _) ?_
  refine ds_loop (fun m E S nk => ∃ (one : List Pt2) (g : Bool), p ∈ one /\ one.Nodup /\ (∀ x ∈ one, Conn gap (p :: r) p x) /\ (g = false -> ∀ x ∈ one, ∀ y ∈ (p :: r), far x y <= gap -> y ∈ one) /\ m = 2 * (N - one.length) + (if g = true then 1 else 0) /\ E = [(1, .int gap), (5, ptsD (p :: r)), (6, .one (.own 0 0 out.length 1)), (7, .one (.own 1 0 one.length 2)), (8, .bool g)] /\ S = [(0, .data (out.map ptsF)), (1, .data (one.flatMap ptF))] /\ nk = 2) ⟨2 * (N - 1) + 1, _, _, _, [], ?wk1, [p], true, by simp, by simp, fun x hx => ?hx, fun h => (by cases h), by simp, rfl, rfl, rfl⟩ ?_
  case wk1 => exact wkA
  case hx => simp at hx; subst hx; exact .base (by simp)
  rintro m2 E S nk ⟨one, g, hp, hnd, hconn, hclo, hm2, rfl, rfl, rfl⟩
  have honl := sub_len hnd fun x hx => (hconn x hx).mem
  refine goD ?_; intros
  refine ds_if rfl (fun hg => ?_) (fun hg => ?_)
  ·subst hg
   refine goD ?_; intros
   refine ds_keep (SubA.cons (k := 1) rfl (SubA.cons (k := 5) rfl (SubA.cons (k := 6) rfl (SubA.cons (k := 7) rfl (SubA.cons (k := 8) rfl (SubA.cons (k := 9) rfl (SubA.nil _))))))) (SubA.refl _) ?_
   refine ds_loop (fun k E S nk => ∃ (i : Nat) (one' : List Pt2) (g : Bool), i + k = N /\ p ∈ one' /\ one'.Nodup /\ (∀ x ∈ one', Conn gap (p :: r) p x) /\ one.length <= one'.length /\ (g = true -> one.length < one'.length) /\ (g = false -> ∀ (j : Nat) y, j < i -> (p :: r)[j]? = some y -> ∀ x ∈ one', far x y <= gap -> y ∈ one') /\ E = [(1, .int gap), (5, ptsD (p :: r)), (6, .one (.own 0 0 out.length 1)), (7, .one (.own 1 0 one'.length 2)), (8, .bool g), (9, .int i)] /\ S = [(0, .data (out.map ptsF)), (1, .data (one'.flatMap ptF))] /\ nk = 2) ⟨N, _, _, _, [], ?wk2, 0, one, false, oM, hp, hnd, hconn, Nat.le_refl _, fun h => (by cases h), fun _ j y h => oM, rfl, rfl, rfl⟩ ?_
   case wk2 => exact wkA
   rintro k E S nk ⟨i, one', g, hik, hp', hnd', hconn', hle, hgt, hg', rfl, rfl, rfl⟩
   have honl' := sub_len hnd' fun x hx => (hconn' x hx).mem
   have hflat := ptF_len one'
   have hos : Smalls one' := fun x hx => hrs x (hconn' x hx).mem
   refine goD ?_; intros
   refine ds_if rfl (fun ht2 => ?_) (fun ht2 => ?_)
   ·simp at ht2
    have hil : i < (p :: r).length := by simp only [List.length_cons]; omega
    obtain ⟨y, hy⟩ : ∃ y, (p :: r)[i]? = some y := ⟨_, List.getElem?_eq_getElem hil⟩
    have hym : y ∈ (p :: r) := List.mem_of_getElem? hy
    have e1 := ptF_at hy
    refine goD ?_; intros
    refine dw_cfo (ds := [ptsD one', ptD y]) rfl ⟨⟨_, rfl, _, _, rfl, subL_all _ hflat, rfl⟩, ⟨_, rfl, ⟨rfl, rfl⟩, ⟨rfl, rfl⟩, trivial⟩, trivial⟩ (d_has (l := one') (p := y) oM) (by rintro _ rfl; rfl) ?_
    rintro _ rfl
    by_cases hyo : y ∈ one'
    ·have g1 : (!decide (y ∈ one')) = false := by simp [hyo]
     refine goB ?_; intros
     refine ds_if rfl (fun h => by cases h) (fun _ => ?_)
     refine goD ?_; intros
     refine ⟨k - 1, oM, _, _, _, [], ?wk3, i + 1, one', g, oM, hp', hnd', hconn', hle, hgt, fun hg j z hj hz x hx hf => ?_, rfl, rfl, rfl⟩
     case wk3 => exact wkA
     by_cases hji : j = i
     ·subst hji; rw [hy] at hz; obtain rfl := Option.some.inj hz; exact hyo
     ·exact hg' hg j z oM hz x hx hf
    ·have g1 : (!decide (y ∈ one')) = true := by simp [hyo]
     refine goB ?_; intros
     rw [show IntKind.i64.wrap ((i : Int) + 1) = ((i + 1 : Nat) : Int) by rw [dwrap (by omega) (by omega)]; omega]
     refine dw_slf (q := ptF y) (n' := 1) rfl rfl rfl (by omega) (by simp; omega) (by omega) e1 ?_
     refine goD ?_; intros
     refine dw_cfo (ds := [ptsD one', ptsD [y]]) rfl ⟨⟨_, rfl, _, _, rfl, subL_all _ hflat, rfl⟩, ⟨_, rfl, rfl, rfl⟩, trivial⟩ (d_rdistance hos (fun x hx => by simp at hx; subst hx; exact hrs x hym) (by omega) (by simp)) (by rintro _ rfl; rfl) ?_
     rintro _ rfl
     by_cases hd : dist one' [y] <= gap
     ·have g2 : decide (dist one' [y] <= gap) = true := by simpa using hd
      obtain ⟨x, hx, hxy⟩ := (dist_one (fun e => by rw [e] at hp'; simp at hp') y).1 hd
      refine goB ?_; intros
      refine ds_if rfl (fun _ => ?_) (fun h => by cases h)
      refine goD ?_; intros
      refine dw_app rfl rfl rfl (subL_all _ hflat) ⟨rfl, rfl, _, rfl, rfl⟩ oM oM (by decide) rfl ?_
      refine goD ?_; intros
      have hD : one'.flatMap ptF ++ ptF y = (one' ++ [y]).flatMap ptF := by simp
      have hL : one'.length + 1 = (one' ++ [y]).length := by simp
      refine ⟨k - 1, by omega, _, _, _, [(1, 3)], ?wk4, i + 1, one' ++ [y], true, by omega, by simp [hp'], ?hnd, fun z hz => ?hc, by simp; omega, fun _ => by simp; omega, fun h => (by cases h), rfl, rfl, rfl⟩
      case wk4 => rw [<- hD, <- hL]; exact wkA
      case hnd => exact List.nodup_append.2 ⟨hnd', by simp, fun a ha b hb e => by simp at hb; subst hb; subst e; exact hyo ha⟩
      case hc =>
       rcases List.mem_append.1 hz with h|h
       ·exact hconn' z h
       ·simp at h; subst h; exact .step (hconn' x hx) hym hxy
     ·have g2 : decide (dist one' [y] <= gap) = false := by simpa using hd
      refine goB ?_; intros
      refine ds_if rfl (fun h => by cases h) (fun _ => ?_)
      refine goD ?_; intros
      refine ⟨k - 1, oM, _, _, _, [], ?wk5, i + 1, one', g, oM, hp', hnd', hconn', hle, hgt, fun hg j z hj hz x hx hf => ?_, rfl, rfl, rfl⟩
      case wk5 => exact wkA
      by_cases hji : j = i
      ·subst hji; rw [hy] at hz; obtain rfl := Option.some.inj hz
       exact absurd ((dist_one (fun e => by rw [e] at hx; simp at hx) y).2 ⟨x, hx, hf⟩) hd
      ·exact hg' hg j z oM hz x hx hf
   ·simp at ht2
    refine goD ?_; intros
    refine ⟨2 * (N - one'.length) + (if g = true then 1 else 0), ?hlt, _, _, _, [], ?wk6, one', g, hp', hnd', hconn', fun hg x hx y hy hf => ?_, rfl, rfl, rfl, rfl⟩
    case wk6 => exact wkA
    case hlt =>
     rw [hm2]
     cases g with
     | true => have := hgt rfl; simp; omega
     | false => simp; omega
    obtain ⟨j, hj⟩ := List.getElem?_of_mem hy
    have hjl := (List.getElem?_eq_some_iff.1 hj).1
    simp at hjl
    exact hg' hg j y (by simp at hN; omega) hj x hx hf
  ·subst hg
   have hclo := hclo rfl
   have hcc := conn_closed hp hconn hclo
   have hflat := ptF_len one
   refine goD ?_; intros
   refine ds_keep (SubA.cons (k := 1) rfl (SubA.cons (k := 5) rfl (SubA.cons (k := 6) rfl (SubA.cons (k := 7) rfl (SubA.cons (k := 10) rfl (SubA.cons (k := 11) rfl (SubA.nil _))))))) (SubA.refl _) ?_
   refine ds_loop (fun k E S nk => ∃ (i : Nat) (left : List Pt2), i + k = N /\ left = minus ((p :: r).take i) one /\ E = [(1, .int gap), (5, ptsD (p :: r)), (6, .one (.own 0 0 out.length 1)), (7, .one (.own 1 0 one.length 2)), (10, .one (.own 2 0 left.length 2)), (11, .int i)] /\ S = [(0, .data (out.map ptsF)), (1, .data (one.flatMap ptF)), (2, .data (left.flatMap ptF))] /\ nk = 3) ⟨N, _, _, _, [], ?wk7, 0, [], by omega, by simp [minus], rfl, rfl, rfl⟩ ?_
   case wk7 => exact wkA
   rintro k E S nk ⟨i, left, hik, hleft, rfl, rfl, rfl⟩
   have hll : left.length <= i := by
    rw [hleft]; unfold minus
    have := List.length_filter_le (fun x => !decide (x ∈ one)) ((p :: r).take i)
    have h2 := List.length_take_le i (p :: r)
    omega
   have hlfl := ptF_len left
   refine goD ?_; intros
   refine ds_if rfl (fun ht2 => ?_) (fun ht2 => ?_)
   ·simp at ht2
    have hil : i < (p :: r).length := by simp only [List.length_cons]; omega
    obtain ⟨y, hy⟩ : ∃ y, (p :: r)[i]? = some y := ⟨_, List.getElem?_eq_getElem hil⟩
    have e1 := ptF_at hy
    refine goD ?_; intros
    refine dw_cfo (ds := [ptsD one, ptD y]) rfl ⟨⟨_, rfl, _, _, rfl, subL_all _ hflat, rfl⟩, ⟨_, rfl, ⟨rfl, rfl⟩, ⟨rfl, rfl⟩, trivial⟩, trivial⟩ (d_has (l := one) (p := y) oM) (by rintro _ rfl; rfl) ?_
    rintro _ rfl
    refine goD ?_; intros
    have hstep : minus ((p :: r).take (i + 1)) one = if y ∈ one then left else left ++ [y] := by
     rw [List.take_add_one, hy, minus, List.filter_append, hleft, minus]
     by_cases hyo : y ∈ one <;> simp [hyo]
    refine ds_if rfl (fun hb => ?_) (fun hb => ?_)
    ·have hyo : y ∉ one := by simpa using hb
     rw [if_neg hyo] at hstep
     refine goD ?_; intros
     refine dw_app rfl rfl rfl (subL_all _ hlfl) ⟨rfl, rfl, _, rfl, rfl⟩ oM oM (by decide) rfl ?_
     refine goD ?_; intros
     have hD : left.flatMap ptF ++ ptF y = (left ++ [y]).flatMap ptF := by simp
     have hL : left.length + 1 = (left ++ [y]).length := by simp
     refine ⟨k - 1, oM, _, _, _, [(2, 4)], ?wk8, i + 1, left ++ [y], oM, hstep.symm, rfl, rfl, rfl⟩
     case wk8 => rw [<- hD, <- hL]; exact wkA
    ·have hyo : y ∈ one := by simpa using hb
     rw [if_pos hyo] at hstep
     refine goD ?_; intros
     refine ⟨k - 1, oM, _, _, _, [], ?wk9, i + 1, left, oM, hstep.symm, rfl, rfl, rfl⟩
     case wk9 => exact wkA
   ·simp at ht2
    have hlr : left = minus (p :: r) one := by rw [hleft, List.take_of_length_le (by simp at hN ⊢; omega)]
    refine ds_frz 1 rfl okZ okZ ?_
    refine goD ?_; intros
    refine dw_cf (ds := [ptsD one]) rfl rfl (d_sorted (l := one) oM) ?_
    rintro _ rfl
    refine goD ?_; intros
    refine dw_app rfl rfl rfl (subL_all _ hol) ⟨rfl, rfl, _, rfl, rfl⟩ oM oM (by decide) rfl ?_
    refine dw_frz 2 rfl okZ okZ ?_
    refine goD ?_; intros
    have hD : out.map ptsF ++ [ptsF (sortedP one)] = (out ++ [sortedP one]).map ptsF := by simp
    have hL : out.length + 1 = (out ++ [sortedP one]).length := by simp
    refine ⟨left.length, ?hlt, _, _, _, [(0, 4)], ?wka, left, out ++ [sortedP one], rfl, ?hr, fun x hx => ?hs2, ?hle, fun cs hcs => ?hcl, rfl, rfl, rfl⟩
    case wka => rw [<- hD, <- hL]; exact wkA
    case hlt => have := minus_len (r := r) hp; rw [hlr, hm]; simp; omega
    case hr => rw [hlr]; exact hrows.minus _
    case hs2 => rw [hlr, minus_mem] at hx; exact hsub x hx.1
    case hle => have := minus_len (r := r) hp; rw [hlr]; simp at hout ⊢; omega
    case hcl =>
     rw [List.append_assoc]
     refine hcls _ (.cons (sortedP_rows one) (fun x => sortedP_mem.trans (hcc x)) ?_)
     have : minus (p :: r) (sortedP one) = left := by
      rw [hlr]; unfold minus; congr 1; funext x; simp [sortedP_mem]
     rw [this]; exact hcs
 ·simp at ht
  subst ht
  refine goD ?_; intros
  refine ds_keep (SubA.cons (k := 4) rfl (SubA.nil _)) (SubA.refl _) ?_
  refine ds_frz 0 rfl okZ okZ ?_
  refine goD ?_; intros
  refine ds_ret ⟨_, rfl, rfl, out, rfl, ?_⟩
  have := hcls [] .nil
  simpa using this
end Go.Ae

namespace Go.Ae
open Go.Ab Go.Proofs
theorem SortedP.step {l : List Pt2} (hs : SortedP l) {i j : Nat} {x y : Pt2} (hi : l[i]? = some x) (hj : l[j]? = some y) (hij : i < j) (hne : y ≠ x) : before x y = true := before_total (by rw [hs i j x y hi hj hij]; decide) (fun e => hne e)
theorem rows_of_sorted {c : List Pt2} (hs : SortedP c) (hn : c.Nodup) : ByRows c := by
 rw [ByRows, List.pairwise_iff_getElem]
 intro i j hi hj hij
 refine hs.step (List.getElem?_eq_getElem hi) (List.getElem?_eq_getElem hj) hij fun e => ?_
 have := (List.getElem?_inj (i := i) (j := j) hi hn).1 (by rw [List.getElem?_eq_getElem hi, List.getElem?_eq_getElem hj, e])
 omega
end Go.Ae

namespace Go.Ae
open Go.Ab Go.Proofs
set_option linter.unusedSimpArgs false
theorem eqs_pt (neg : Bool) (p q : Pt) : aPure .lf (.eqs neg [(0, false), (1, false)] (.c (.agg (ptC p))) (.c (.agg (ptC q)))) = some (.bool (if neg then !decide (p = q) else decide (p = q))) := by
 obtain ⟨p1, p2⟩ := p
 obtain ⟨q1, q2⟩ := q
 simp only [aPure, Opd.ev, ptC, aEqs, aEq, List.getElem?_cons_zero, List.getElem?_cons_succ, if_true]
 by_cases h1 : p1 = q1
 ·by_cases h2 : p2 = q2
  ·subst h1; subst h2; simp
  ·subst h1
   have e2 : (p2 == q2) = false := by simpa using h2
   simp [h2, e2]
 ·have e1 : (p1 == q1) = false := by simpa using h1
  simp [h1, e1]
theorem samePts_ro {H : Hp} {l r : List Pt} {v u : V} (hl : Pts H l v) (hr : Pts H r u) (hn : l.length < 1000000000000) : ACalls Tryz.prog 1 11 [v, u] H fun x _ => x = .bool (decide (l = r)) := by
 refine pfn_ok cp11 (by simp [f11]) fun hwf => ?_
 have hlen := hl.len
 have hlen' := hr.len
 repeat (first|refine pw_mvt rfl ?_|refine pw_mvc ?_|refine pw_p rfl rfl ?_|refine pw_p rfl aM ?_|refine pw_nil ?_|refine ps_seq ?_|refine ps_ops0 mix ?_)
 refine ps_if rfl rfl (fun ht => ?_) (fun ht => ?_)
 ·repeat (first|refine pw_mvc ?_|refine pw_nil ?_|refine ps_seq ?_|refine ps_ops0 mix ?_)
  refine ps_ret ⟨_, rfl, ?_⟩
  simp at ht
  congr 2
  symm
  simp
  intro h
  exact ht (by rw [h])
 ·repeat (first|refine pw_mvc ?_|refine pw_nil ?_|refine ps_seq ?_|refine ps_ops0 mix ?_|refine ps_skip ?_|refine ps_block ?_)
  simp at ht
  refine ps_loop (fun m E H' => Pts H' l v /\ Pts H' r u /\ ∃ k : Nat, k + m = l.length /\ E = [(0, v), (1, u), (5, .int k)] /\ l.take k = r.take k) (m := l.length) ⟨_, (SubE.cons (k := 0) rfl (SubE.cons (k := 1) rfl (SubE.cons (k := 5) rfl (SubE.nil _)))), hl, hr, 0, oM, rfl, rfl⟩ ?_
  rintro m E H' hwf' ⟨hl', hr', k, hk, rfl, hno⟩
  repeat (first|refine pw_mvt rfl ?_|refine pw_p rfl rfl ?_|refine pw_p rfl aM ?_|refine pw_nil ?_|refine ps_seq ?_|refine ps_ops0 mix ?_)
  refine ps_if rfl rfl (fun ht => ?_) (fun ht => ?_)
  ·simp at ht
   obtain ⟨p, hp⟩ : ∃ p, l[k]? = some p := ⟨_, List.getElem?_eq_getElem oM⟩
   obtain ⟨q, hq⟩ : ∃ p, r[k]? = some p := ⟨_, List.getElem?_eq_getElem oM⟩
   obtain ⟨b, o, e1, e2⟩ := hl'.at hp .i64
   obtain ⟨b', o', e1', e2'⟩ := hr'.at hq .i64
   repeat (first|refine ps_seq ?_|refine ps_skip ?_|refine ps_block ?_)
   refine ps_ops mix ?_
   repeat (first|refine pw_mvt rfl ?_|refine pw_ln rfl rfl aM ?_|refine pw_p rfl aM ?_)
   refine pw_p rfl (eqs_pt true p q) ?_
   repeat (first|refine pw_nil ?_)
   refine ps_if rfl rfl (fun ht2 => ?_) (fun ht2 => ?_)
   ·repeat (first|refine pw_mvc ?_|refine pw_nil ?_|refine ps_seq ?_|refine ps_ops0 mix ?_)
    refine ps_ret ⟨_, rfl, ?_⟩
    simp at ht2
    congr 2
    symm
    simp
    intro h
    subst h
    rw [hp] at hq
    exact ht2 (Option.some.inj hq)
   ·repeat (first|refine pw_mvt rfl ?_|refine pw_p rfl rfl ?_|refine pw_nil ?_|refine ps_ops0 mix ?_|refine ps_skip ?_)
    simp at ht2
    subst ht2
    refine ⟨m - 1, oM, _, (SubE.cons (k := 0) rfl (SubE.cons (k := 1) rfl (SubE.cons (k := 5) rfl (SubE.nil _)))), hl'.le (fun _ _ _ h => h), hr'.le (fun _ _ _ h => h), k + 1, oM, ?_, ?_⟩
    ·rw [wrap_i64 (by omega) (by omega)]; rfl
    ·rw [List.take_add_one, List.take_add_one, hp, hq, hno]
  ·simp at ht
   obtain rfl : k = l.length := by omega
   rw [List.take_length, List.take_of_length_le (by omega)] at hno
   refine ps_exit ?_
   repeat (first|refine pw_mvc ?_|refine pw_nil ?_|refine ps_seq ?_|refine ps_ops0 mix ?_)
   exact ps_ret ⟨_, rfl, by simp [hno]⟩
theorem samePts_ok {H : Hp} {l r : List Pt} {v u : V} (hl : Pts H l v) (hr : Pts H r u) (hn : l.length < 1000000000000) : ACalls Tryz.prog 1 11 [v, u] H fun x H' => x = .bool (decide (l = r)) /\ H' = H :=
 (ACalls.pure (samePts_ro (hl.le (Le.ro H)) (hr.le (Le.ro H)) hn) (fun v _ h => by rw [h]; rfl)).mono fun v H' ⟨⟨_, h⟩, e⟩ => ⟨h, e⟩
theorem ptsF_eq (l : List Pt2) : l.flatMap ptF = (ptsC l).map .c := by
 induction l with
 | nil => rfl
 | cons p l ih => rw [List.flatMap_cons, ih]; rfl
theorem ptsC_closed (l : List Pt2) : ∀ c ∈ ptsC l, c.closed = true := by
 intro c hc
 obtain ⟨p, _, hp⟩ := List.mem_flatMap.1 hc
 simp only [ptC, List.mem_cons, List.not_mem_nil, or_false] at hp
 rcases hp with rfl|rfl <;> rfl
theorem rd_of_own {Z : Nat -> Prop} {H' : Hp} {lo hi : Nat} {l : List Pt2} {v : V} (h : POwn H' lo hi l v) (hz : ∀ b, lo <= b -> b < hi -> Z b) : RDV Z H' nob (ptsD l) v := by
 obtain ⟨⟨h1, h2⟩, h3⟩ := h
 rcases h2 with ⟨rfl, h0⟩|⟨b, ex, rfl, hlo, hr⟩
 ·obtain rfl : l = [] := List.eq_nil_of_length_eq_zero h0
  exact ⟨_, rfl, .nil 2⟩
 ·have hb := h3 b rfl
  refine ⟨_, rfl, .sl (fun _ => hz b hb.1 hb.2) (by rw [ptF_len]) (Nat.le_refl _) (by rw [<- h1]; exact hr.2) fun i d c hd hc => ?_⟩
  rw [ptsF_eq, List.getElem?_map, hc] at hd
  obtain rfl := Option.some.inj hd
  exact .c c (ptsC_closed l c (List.mem_of_getElem? hc))
theorem pts_of_rd {Z : Nat -> Prop} {H : Hp} {l : List Pt2} {v : V} (h : RDV Z H nob (ptsD l) v) : Pts H l v := by
 obtain ⟨c, rfl, h⟩ := h
 refine ⟨Go.Ab.ptsC_len l, ?_⟩
 generalize hn : l.length = n at h
 generalize hq : l.flatMap ptF = q at h
 cases h with
 | nil => exact .inl ⟨rfl, rfl⟩
 | sl hz hl hcap hld hel =>
  rename_i b o cap ex cs
  refine .inr ⟨b, o, cap, ex, rfl, ?_⟩
  rw [hld]
  congr 1
  refine List.ext_getElem? fun i => ?_
  have hlen : cs.length = (ptsC l).length := by rw [loads_len hld, Go.Ab.ptsC_len, hn]
  by_cases hi : i < cs.length
  ·have e1 : q[i]? = some (.c (ptsC l)[i]) := by rw [<- hq, ptsF_eq, List.getElem?_map, List.getElem?_eq_getElem (by omega)]; rfl
   have := hel i _ _ e1 (List.getElem?_eq_getElem hi)
   rw [List.getElem?_eq_getElem hi, List.getElem?_eq_getElem (by omega)]
   generalize (ptsC l)[i] = z at *
   cases this
   rfl
  ·rw [List.getElem?_eq_none (by omega), List.getElem?_eq_none (by omega)]
theorem d_same {l r : List Pt2} (hn : l.length < 1000000000000) : DK 11 [ptsD l, ptsD r] fun d => d = .bool (decide (l = r)) := fun H Z args hw hz hg ha => by
 match args, ha with
 | [v, u], ⟨h1, h2, _⟩ =>
  refine (samePts_ok (pts_of_rd h1) (pts_of_rd h2) hn).mono ?_
  rintro x H' ⟨rfl, rfl⟩
  exact ⟨hw, Nat.le_refl _, fun _ _ => rfl, _, exact_ok rfl, rfl⟩
theorem tdiv_tmod {a b : Int} (hb : 0 < b) : (if a.tmod b < 0 then a.tdiv b - 1 else a.tdiv b) = a / b := by
 have h1 := Int.tmod_add_mul_tdiv a b
 have h2 := tmod_bd a hb
 have h3 := Int.emod_add_mul_ediv a b
 have h4 := Int.emod_nonneg a (by omega : b ≠ 0)
 have h5 := Int.emod_lt_of_pos a hb
 split
 ·rename_i h
  have key : b * (a.tdiv b - 1 - a / b) = a % b - a.tmod b - b := by
   rw [Int.mul_sub, Int.mul_sub]; omega
  have : a.tdiv b - 1 - a / b = 0 := by
   by_cases hc : a.tdiv b - 1 - a / b = 0
   ·exact hc
   ·exfalso
    rcases Int.lt_or_gt_of_ne hc with hlt|hgt
    ·have : b * (a.tdiv b - 1 - a / b) <= b * (-1) := Int.mul_le_mul_of_nonneg_left oM oM
     omega
    ·have : b * 1 <= b * (a.tdiv b - 1 - a / b) := Int.mul_le_mul_of_nonneg_left oM oM
     omega
  omega
 ·rename_i h
  have key : b * (a.tdiv b - a / b) = a % b - a.tmod b := by
   rw [Int.mul_sub]; omega
  have : a.tdiv b - a / b = 0 := by
   by_cases hc : a.tdiv b - a / b = 0
   ·exact hc
   ·exfalso
    rcases Int.lt_or_gt_of_ne hc with hlt|hgt
    ·have : b * (a.tdiv b - a / b) <= b * (-1) := Int.mul_le_mul_of_nonneg_left oM oM
     omega
    ·have : b * 1 <= b * (a.tdiv b - a / b) := Int.mul_le_mul_of_nonneg_left oM oM
     omega
  omega
theorem tdiv_bd {a b : Int} (h1 : -1000000000000000000 < a) (h2 : a < 1000000000000000000) : -1000000000000000000 < a.tdiv b /\ a.tdiv b < 1000000000000000000 := by
 have h : (a.tdiv b).natAbs = a.natAbs / b.natAbs := Int.natAbs_tdiv a b
 have h3 : a.natAbs / b.natAbs <= a.natAbs := Nat.div_le_self _ _
 rw [<- h] at h3
 omega
theorem rfloor_ok {H : Hp} {a b : Int} (hb : 0 < b) (h1 : -1000000000000000000 < a) (h2 : a < 1000000000000000000) : ACalls Tryz.prog 1 82 [.int a, .int b] H fun v H' => v = .int (a / b) /\ H' = H := by
 have hd := tdiv_bd (b := b) h1 h2
 have hf := tdiv_tmod (a := a) hb
 refine pfn_ok cp82 (by simp [f82]) fun hwf => ?_
 repeat (first|refine pw_mvt rfl ?_|refine pw_mvc ?_|refine pw_nil ?_|refine ps_seq ?_|refine ps_ops0 mix ?_)
 refine pw_quo rfl rfl rfl oM ?_
 rw [wrap_i64 (n := a.tdiv b) (by omega) (by omega)]
 repeat (first|refine pw_mvt rfl ?_|refine pw_nil ?_|refine ps_seq ?_|refine ps_ops0 mix ?_)
 refine pw_rem rfl rfl rfl oM ?_
 repeat (first|refine pw_p rfl rfl ?_|refine pw_nil ?_)
 refine ps_if rfl rfl (fun ht => ?_) (fun ht => ?_)
 ·repeat (first|refine pw_mvt rfl ?_|refine pw_p rfl rfl ?_|refine pw_nil ?_|refine ps_seq ?_|refine ps_ops0 mix ?_)
  simp at ht
  rw [if_pos ht] at hf
  refine ps_ret ⟨_, rfl, ?_, rfl⟩
  rw [wrap_i64 (by omega) (by omega), hf]
 ·repeat (first|refine pw_mvt rfl ?_|refine pw_nil ?_|refine ps_seq ?_|refine ps_ops0 mix ?_|refine ps_skip ?_)
  simp at ht
  rw [if_neg (by omega)] at hf
  exact ps_ret ⟨_, rfl, by rw [hf], rfl⟩
def betw (a b k n : Int) : Int := (2 * (a * n + k * (b - a)) + n) / (2 * n)
theorem mul_bd {a b A B : Int} (h1 : -A <= a) (h2 : a <= A) (h3 : -B <= b) (h4 : b <= B) : -(A * B) <= a * b /\ a * b <= A * B := by
 have hA : 0 <= A := by omega
 have hB : 0 <= B := by omega
 have : (a * b).natAbs <= (A * B).natAbs := by
  rw [Int.natAbs_mul, Int.natAbs_mul]
  exact Nat.mul_le_mul oM oM
 have hp : 0 <= A * B := Int.mul_nonneg hA hB
 omega
theorem between_ok {H : Hp} {a b k n : Int} (ha : -1000000 <= a) (ha' : a <= 1000000) (hb : -1000000 <= b) (hb' : b <= 1000000) (hk : 0 <= k) (hk' : k <= 1000000) (hn : 0 < n) (hn' : n <= 1000000) : ACalls Tryz.prog 1 95 [.int a, .int b, .int k, .int n] H fun v H' => v = .int (betw a b k n) /\ H' = H := by
 have m1 := mul_bd (a := a) (b := n) (A := 1000000) (B := 1000000) oM oM oM oM
 have m2 := mul_bd (a := k) (b := b - a) (A := 1000000) (B := 2000000) oM oM oM oM
 have hd := tdiv_bd (a := 2 * (a * n + k * (b - a)) + n) (b := 2 * n) oM oM
 have hf := tdiv_tmod (a := 2 * (a * n + k * (b - a)) + n) (b := 2 * n) oM
 refine pfn_ok cp95 (by simp [f95]) fun hwf => ?_
 repeat (first|refine pw_mvt rfl ?_|refine pw_mvc ?_|refine pw_p rfl rfl ?_|refine pw_nil ?_|refine ps_seq ?_|refine ps_ops0 mix ?_)
 rw [wrap_i64 (n := a * n) (by omega) (by omega), wrap_i64 (n := b - a) (by omega) (by omega), wrap_i64 (n := k * (b - a)) (by omega) (by omega), wrap_i64 (n := a * n + k * (b - a)) (by omega) (by omega), wrap_i64 (n := 2 * (a * n + k * (b - a))) (by omega) (by omega), wrap_i64 (n := 2 * (a * n + k * (b - a)) + n) (by omega) (by omega), wrap_i64 (n := 2 * n) (by omega) (by omega)]
 have hbt : betw a b k n = (2 * (a * n + k * (b - a)) + n) / (2 * n) := rfl
 rw [hbt]
 clear hbt
 generalize 2 * (a * n + k * (b - a)) + n = N at *
 refine pw_quo rfl rfl rfl oM ?_
 rw [wrap_i64 (n := N.tdiv (2 * n)) (by omega) (by omega)]
 repeat (first|refine pw_mvt rfl ?_|refine pw_p rfl rfl ?_|refine pw_nil ?_|refine ps_seq ?_|refine ps_ops0 mix ?_)
 rw [wrap_i64 (n := 2 * n) (by omega) (by omega)]
 refine pw_rem rfl rfl rfl oM ?_
 repeat (first|refine pw_p rfl rfl ?_|refine pw_nil ?_)
 refine ps_if rfl rfl (fun ht => ?_) (fun ht => ?_)
 ·repeat (first|refine pw_mvt rfl ?_|refine pw_p rfl rfl ?_|refine pw_nil ?_|refine ps_seq ?_|refine ps_ops0 mix ?_)
  simp at ht
  rw [if_pos ht] at hf
  refine ps_ret ⟨_, rfl, ?_, rfl⟩
  rw [wrap_i64 (by omega) (by omega), hf]
 ·repeat (first|refine pw_mvt rfl ?_|refine pw_nil ?_|refine ps_seq ?_|refine ps_ops0 mix ?_|refine ps_skip ?_)
  simp at ht
  rw [if_neg (by omega)] at hf
  exact ps_ret ⟨_, rfl, by rw [hf], rfl⟩
def nearB (l : List Pt) : Bool := l.all fun p => decide (-1000 <= p.1) && decide (p.1 <= 1000) && decide (-1000 <= p.2) && decide (p.2 <= 1000)
theorem near_ro {H : Hp} {l : List Pt} {v : V} (hl : Pts H l v) (hn : l.length < 1000000000000) : ACalls Tryz.prog 1 59 [v] H fun v _ => v = .bool (nearB l) := by
 refine pfn_ok cp59 (by simp [f59]) fun hwf => ?_
 have hlen := hl.len
 repeat (first|refine pw_mvt rfl ?_|refine pw_mvc ?_|refine pw_p rfl aM ?_|refine pw_nil ?_|refine ps_seq ?_|refine ps_ops0 mix ?_|refine ps_block ?_)
 refine ps_loop (fun m E H' => Pts H' l v /\ ∃ k : Nat, k + m = l.length /\ E = [(5, v), (6, .int l.length), (7, .int k)] /\ nearB (l.take k) = true) (m := l.length) ⟨_, (SubE.cons (k := 5) rfl (SubE.cons (k := 6) rfl (SubE.cons (k := 7) rfl (SubE.nil _)))), hl, 0, oM, rfl, rfl⟩ ?_
 rintro m E H' hwf' ⟨hl', k, hk, rfl, hno⟩
 repeat (first|refine pw_p rfl rfl ?_|refine pw_nil ?_|refine ps_seq ?_|refine ps_ops0 mix ?_)
 refine ps_if rfl rfl (fun ht => ?_) (fun ht => ?_)
 ·simp at ht
  obtain ⟨p, hp⟩ : ∃ p, l[k]? = some p := ⟨_, List.getElem?_eq_getElem oM⟩
  obtain ⟨b, o, e1, e2⟩ := hl'.at hp .i64
  obtain ⟨H3, s1, hw3, hx3, hb3, hn3⟩ := new_var hwf' [.int .i64 0, .int .i64 0] (ptC p) rfl
  repeat (first|refine pw_ln rfl rfl aM ?_|refine pw_p rfl aM ?_|refine ps_seq ?_|refine ps_ops0 mix ?_|refine ps_skip ?_|refine ps_block ?_)
  have c0 := hb3.cell (i := 0) rfl
  have c1 := hb3.cell (i := 1) rfl
  refine pw_a rfl rfl (pw_stn rfl rfl rfl rfl s1 trivial ?_)
  repeat (first|refine pw_pick rfl rfl (by first|exact fun _ => rfl|exact fun h => (by simp only [if_pos h]; rfl)|exact fun h => (by simp only [if_pos h]; assumption)) (by first|exact fun _ => rfl|exact fun h => (by simp only [if_pos h]; rfl)|exact fun h => (by simp only [if_pos h]; assumption)) ?_|refine pw_mvt rfl ?_|refine pw_p rfl rfl ?_|refine pw_l1 rfl rfl (by assumption) ?_|refine pw_pg rfl rfl (by first|exact fun _ => rfl|exact fun _ => (by assumption)|exact fun h => (by simp only [if_pos h]; rfl)|exact fun h => (by simp only [if_pos h]; assumption)) ?_|refine pw_lg1 rfl rfl (by first|exact fun _ => rfl|exact fun h => (by simp only [if_pos h]; rfl)|exact fun h => (by simp only [if_pos h]; assumption)) (by assumption) ?_|refine pw_nil ?_|refine ps_seq ?_|refine ps_ops0 mix ?_)
  have hpk : nearB (l.take (k + 1)) = (nearB (l.take k) && nearB [p]) := by
   rw [List.take_add_one, hp]
   simp [nearB]
  refine ps_if rfl rfl (fun ht2 => ?_) (fun ht2 => ?_)
  ·repeat (first|refine pw_mvc ?_|refine pw_nil ?_|refine ps_seq ?_|refine ps_ops0 mix ?_)
   refine ps_ret ⟨_, rfl, ?_⟩
   congr 2
   symm
   simp at ht2
   simp only [nearB, List.all_eq_false]
   refine ⟨p, List.mem_of_getElem? hp, ?_⟩
   simp
   omega
  ·repeat (first|refine pw_mvt rfl ?_|refine pw_p rfl rfl ?_|refine pw_nil ?_|refine ps_ops0 mix ?_|refine ps_skip ?_)
   simp at ht2
   refine ⟨m - 1, oM, _, (SubE.cons (k := 5) rfl (SubE.cons (k := 6) rfl (SubE.cons (k := 7) rfl (SubE.nil _)))), hl'.ext hx3, k + 1, oM, ?_, ?_⟩
   ·rw [wrap_i64 (by omega) (by omega)]; rfl
   ·rw [hpk, hno]
    simp [nearB]
    omega
 ·simp at ht
  obtain rfl : k = l.length := by omega
  rw [List.take_length] at hno
  refine ps_exit ?_
  repeat (first|refine pw_mvc ?_|refine pw_nil ?_|refine ps_seq ?_|refine ps_ops0 mix ?_)
  exact ps_ret ⟨_, rfl, by rw [hno]⟩
theorem near_ok {H : Hp} {l : List Pt} {v : V} (hl : Pts H l v) (hn : l.length < 1000000000000) : ACalls Tryz.prog 1 59 [v] H fun v H' => v = .bool (nearB l) /\ H' = H :=
 (ACalls.pure (near_ro (hl.le (Le.ro H)) hn) (fun v _ h => by rw [h]; rfl)).mono fun v H' ⟨⟨_, h⟩, e⟩ => ⟨h, e⟩
def lineK (p q : Pt) (n : Int) (k : Nat) : Pt := (betw p.1 q.1 k n, betw p.2 q.2 k n)
def lineP (p q : Pt) : List Pt := if far p q = 0 then [p] else (List.range ((far p q).toNat + 1)).map (lineK p q (far p q))
theorem far_bd {B : Int} {p q : Pt} (hp : Small B p) (hq : Small B q) : 0 <= far p q /\ far p q <= 2 * B := by
 obtain ⟨p1, p2, p3, p4⟩ := hp
 obtain ⟨q1, q2, q3, q4⟩ := hq
 simp only [far]
 omega
theorem rline_ro {H : Hp} {p q : Pt} (hp : Small 1000 p) (hq : Small 1000 q) : ACalls Tryz.prog 1 63 [Go.Ab.ptV p, Go.Ab.ptV q] H fun v H' => POwn H' H.nx H'.nx (lineP p q) v := by
 have hfb := far_bd hp hq
 have hp' : Small 1000000000000000000 p := by obtain ⟨p1, p2, p3, p4⟩ := hp; exact ⟨oM, oM, oM, oM⟩
 have hq' : Small 1000000000000000000 q := by obtain ⟨p1, p2, p3, p4⟩ := hq; exact ⟨oM, oM, oM, oM⟩
 refine pfn_ok cp63 (by simp [f63]) fun hwf => ?_
 obtain ⟨hw1, hx1, hb1⟩ := new_box hwf (ptC p) rfl
 obtain ⟨hw2, hx2, hb2⟩ := new_box hw1 (ptC q) rfl
 refine ps_seq (ps_ops0 mix (pw_a rfl rfl (pw_a rfl rfl (pw_mvc (pw_nil ?_)))))
 replace hb1 := hb1.ext hx2
 have hn2 : ((H.push (.row (ptC p).length (ptC p) .lf true)).push (.row (ptC q).length (ptC q) .lf true)).nx = H.nx + 2 := rfl
 generalize ((H.push _).push _) = H2 at *
 have l1 := hb1.2
 have l2 := hb2.2
 refine ps_seq (ps_ops0 mix ?_)
 refine pw_ln rfl rfl l1 (pw_ln rfl rfl l2 (pw_cfp rfl rfl (rfar_ok hp' hq') (by repeat (first|exact trivial|refine ⟨by assumption, ?_⟩)) ?_))
 obtain ⟨hw3, hx3, hb3⟩ := new_box (n := 0) hw2 [] rfl
 refine pw_a (bk := .row 0 [] .lf true) (g := fun b => .one (.slc b 0 0 0 2 true)) rfl rfl ?_
 refine pw_mvt rfl (pw_mvt rfl (pw_nil ?_))
 replace hb1 := hb1.ext hx3
 replace hb2 := hb2.ext hx3
 have hP : POwn (H2.push (.row 0 [] .lf true)) (H.nx + 2) (H.nx + 3) [] (.one (.slc H2.nx 0 0 0 2 true)) := POwn.none (by rw [Hp.get_push, if_pos rfl]) (by omega) (by omega)
 have hn3 : (H2.push (.row 0 [] .lf true)).nx = H.nx + 3 := by simp [hn2]
 refine ps_sub (SubE.cons (k := 2) rfl (SubE.cons (k := 3) rfl (SubE.cons (k := 5) rfl (SubE.cons (k := 6) rfl (SubE.nil _))))) ?_
 generalize (H2.push _) = H3 at *
 replace l1 := hb1.2
 generalize hn : far p q = n at *
 repeat (first|refine pw_mvt rfl ?_|refine pw_p rfl rfl ?_|refine pw_nil ?_|refine ps_seq ?_|refine ps_ops0 mix ?_)
 refine ps_if rfl rfl (fun ht => ?_) (fun ht => ?_)
 ·simp at ht
  repeat (first|refine pw_ln rfl rfl aM ?_|refine ps_seq ?_|refine ps_ops0 mix ?_)
  refine pw_b1 rfl rfl rfl ?_
  refine pw_mvt rfl (pw_nil (ps_ret ⟨_, rfl, ?_⟩))
  rw [lineP, if_pos (by omega)]
  refine ⟨⟨rfl, .inr ⟨H3.nx, true, rfl, by omega, ?_⟩⟩, fun b hb => by obtain rfl := Option.some.inj hb; simp; omega⟩
  exact Row.new (ptC p)
 ·simp at ht
  repeat (first|refine pw_mvc ?_|refine pw_nil ?_|refine ps_seq ?_|refine ps_ops0 mix ?_|refine ps_skip ?_|refine ps_block ?_)
  refine ps_loop (fun m E H' => ∃ k : Nat, k + m = n.toNat + 1 /\ ∃ v, E = [(2, .one (.ptr H.nx 0)), (3, .one (.ptr (H.nx + 1) 0)), (5, .int n), (6, v), (7, .int k)] /\ H.nx + 2 <= H'.nx /\ Row H' H.nx (ptC p) /\ Row H' (H.nx + 1) (ptC q) /\ POwn H' (H.nx + 2) H'.nx ((List.range k).map (lineK p q n)) v) (m := n.toNat + 1) ⟨_, (SubE.cons (k := 2) rfl (SubE.cons (k := 3) rfl (SubE.cons (k := 5) rfl (SubE.cons (k := 6) rfl (SubE.cons (k := 7) rfl (SubE.nil _)))))), 0, oM, _, rfl, oM, hb1, hb2, hP.mono oM oM⟩ ?_
  rintro m E H' hwf' ⟨k, hk, v, rfl, hnx, g1, g2, hP'⟩
  have c0 := g1.cell (i := 0) rfl
  have c1 := g1.cell (i := 1) rfl
  have d0 := g2.cell (i := 0) rfl
  have d1 := g2.cell (i := 1) rfl
  obtain ⟨p1, p2, p3, p4⟩ := hp
  obtain ⟨q1, q2, q3, q4⟩ := hq
  repeat (first|refine pw_mvt rfl ?_|refine pw_p rfl rfl ?_|refine pw_nil ?_|refine ps_seq ?_|refine ps_ops0 mix ?_)
  refine ps_if rfl rfl (fun ht2 => ?_) (fun ht2 => ?_)
  ·simp at ht2
   repeat (first|refine pw_mvt rfl ?_|refine pw_p rfl rfl ?_|refine pw_l1 rfl rfl aM ?_|refine ps_seq ?_|refine ps_ops0 mix ?_|refine ps_skip ?_|refine ps_block ?_)
   have m1 := mul_bd (a := p.1) (b := n) (A := 1000) (B := 2000) oM oM oM oM
   have m2 := mul_bd (a := (k : Int)) (b := q.1 - p.1) (A := 2000) (B := 2000) oM oM oM oM
   have m3 := mul_bd (a := p.2) (b := n) (A := 1000) (B := 2000) oM oM oM oM
   have m4 := mul_bd (a := (k : Int)) (b := q.2 - p.2) (A := 2000) (B := 2000) oM oM oM oM
   rw [wrap_i64 (n := p.1 * n) (by omega) (by omega), wrap_i64 (n := q.1 - p.1) (by omega) (by omega), wrap_i64 (n := k * (q.1 - p.1)) (by omega) (by omega), wrap_i64 (n := p.1 * n + k * (q.1 - p.1)) (by omega) (by omega), wrap_i64 (n := 2 * (p.1 * n + k * (q.1 - p.1))) (by omega) (by omega), wrap_i64 (n := 2 * (p.1 * n + k * (q.1 - p.1)) + n) (by omega) (by omega), wrap_i64 (n := 2 * n) (by omega) (by omega)]
   refine pw_cfp rfl rfl (rfloor_ok oM oM oM) (by repeat (first|exact trivial|refine ⟨by assumption, ?_⟩)) ?_
   repeat (first|refine pw_mvt rfl ?_|refine pw_p rfl rfl ?_|refine pw_l1 rfl rfl aM ?_|refine pw_nil ?_|refine ps_seq ?_|refine ps_ops0 mix ?_)
   rw [wrap_i64 (n := p.2 * n) (by omega) (by omega), wrap_i64 (n := q.2 - p.2) (by omega) (by omega), wrap_i64 (n := k * (q.2 - p.2)) (by omega) (by omega), wrap_i64 (n := p.2 * n + k * (q.2 - p.2)) (by omega) (by omega), wrap_i64 (n := 2 * (p.2 * n + k * (q.2 - p.2))) (by omega) (by omega), wrap_i64 (n := 2 * (p.2 * n + k * (q.2 - p.2)) + n) (by omega) (by omega), wrap_i64 (n := 2 * n) (by omega) (by omega)]
   refine pw_cfp rfl rfl (rfloor_ok oM oM oM) (by repeat (first|exact trivial|refine ⟨by assumption, ?_⟩)) ?_
   repeat (first|refine pw_mvt rfl ?_|refine pw_p rfl rfl ?_|refine pw_nil ?_|refine ps_ops0 mix ?_)
   obtain ⟨v', H5, a1, a2, a3, a4, a5, a6⟩ := hP'.append1 (H1 := H'.push (.row 2 (ptC (lineK p q n k)) .lf true)) (bb := H'.nx) (p := lineK p q n k) (Nat.le_refl _) (hwf'.push _) (fun b hb => by rw [Hp.get_push, if_neg (by omega)]) (by simp) (by rw [Hp.get_push, if_pos rfl]) hnx (by simp; omega)
   refine pw_b1 (cs := ptC (lineK p q n k)) rfl rfl rfl ?_
   refine pw_app rfl rfl rfl a1 a2 trivial ?_
   repeat (first|refine pw_mvt rfl ?_|refine pw_p rfl rfl ?_|refine pw_nil ?_|refine ps_ops0 mix ?_)
   have hne : ∀ b, b < H.nx + 2 -> ownB v ≠ some b := fun b hb e => by have := hP'.2 b e; omega
   refine ⟨m - 1, oM, _, (SubE.cons (k := 2) rfl (SubE.cons (k := 3) rfl (SubE.cons (k := 5) rfl (SubE.cons (k := 6) rfl (SubE.cons (k := 7) rfl (SubE.nil _)))))), k + 1, oM, v', ?_, oM, g1.same (a4 _ oM (hne _ oM)), g2.same (a4 _ oM (hne _ oM)), ?_⟩
   ·rw [wrap_i64 (by omega) (by omega)]; rfl
   ·rw [List.range_succ, List.map_append]; exact a3
  ·simp at ht2
   obtain ⟨c, rfl⟩ := hP'.one
   refine ps_exit ?_
   repeat (first|refine pw_mvt rfl ?_|refine pw_nil ?_|refine ps_seq ?_|refine ps_ops0 mix ?_)
   refine ps_ret ⟨_, rfl, ?_⟩
   rw [lineP, hn, if_neg ht, show n.toNat + 1 = k by omega]
   exact hP'.mono oM (Nat.le_refl _)
theorem rline_ok {H : Hp} {p q : Pt} (hp : Small 1000 p) (hq : Small 1000 q) : ACalls Tryz.prog 1 63 [Go.Ab.ptV p, Go.Ab.ptV q] H fun v H' => POwn H' H.nx H'.nx (lineP p q) v /\ Ext H H' :=
 (ACalls.grow (rline_ro hp hq)).mono fun v H' ⟨H1, hg, e1, e2, e3, e4, _⟩ => by
  subst e1
  exact ⟨hg.same fun b hb => e4 b (hg.2 b hb).1, e3, e2⟩
theorem line_ro {H : Hp} {p q : Pt} (hp : Small 1000 p) (hq : Small 1000 q) : ACalls Tryz.prog 1 88 [Go.Ab.ptV p, Go.Ab.ptV q] H fun v H' => POwn H' H.nx H'.nx (lineP p q) v := by
 have hfb := far_bd hp hq
 have hp' : Small 1000000000000000000 p := by obtain ⟨p1, p2, p3, p4⟩ := hp; exact ⟨oM, oM, oM, oM⟩
 have hq' : Small 1000000000000000000 q := by obtain ⟨p1, p2, p3, p4⟩ := hq; exact ⟨oM, oM, oM, oM⟩
 refine pfn_ok cp88 (by simp [f88]) fun hwf => ?_
 obtain ⟨hw1, hx1, hb1⟩ := new_box hwf (ptC p) rfl
 obtain ⟨hw2, hx2, hb2⟩ := new_box hw1 (ptC q) rfl
 refine ps_seq (ps_ops0 mix (pw_a rfl rfl (pw_a rfl rfl (pw_mvc (pw_nil ?_)))))
 replace hb1 := hb1.ext hx2
 have hn2 : ((H.push (.row (ptC p).length (ptC p) .lf true)).push (.row (ptC q).length (ptC q) .lf true)).nx = H.nx + 2 := rfl
 generalize ((H.push _).push _) = H2 at *
 have l1 := hb1.2
 have l2 := hb2.2
 refine ps_seq (ps_seq (ps_ops0 mix ?_))
 refine pw_ln rfl rfl l1 (pw_ln rfl rfl l2 ?_)
 obtain ⟨hw3, hx3, hb3⟩ := new_box (n := 4) hw2 (ptC p ++ ptC q) rfl
 refine pw_a (bk := .row 4 (ptC p ++ ptC q) .lf true) (g := fun b => .one (.slc b 0 2 2 2 true)) rfl rfl ?_
 have hpts : Pts (H2.push (.row 4 (ptC p ++ ptC q) .lf true)) [p, q] (.one (.slc H2.nx 0 2 2 2 true)) := ⟨rfl, .inr ⟨H2.nx, 0, 2, true, rfl, hb3.2⟩⟩
 have hnear : nearB [p, q] = true := by
  obtain ⟨p1, p2, p3, p4⟩ := hp
  obtain ⟨q1, q2, q3, q4⟩ := hq
  simp [nearB]
  omega
 refine pw_cfp rfl rfl (near_ok hpts (by simp)) (by repeat (first|exact trivial|refine ⟨by assumption, ?_⟩)) ?_
 rw [hnear]
 replace hb1 := hb1.ext hx3
 replace hb2 := hb2.ext hx3
 replace l1 := hb1.2
 replace l2 := hb2.2
 have hn3 : (H2.push (.row 4 (ptC p ++ ptC q) .lf true)).nx = H.nx + 3 := by simp [hn2]
 generalize (H2.push (.row 4 (ptC p ++ ptC q) .lf true)) = H3 at *
 repeat (first|refine pw_p rfl rfl ?_|refine pw_nil ?_)
 refine ps_if rfl rfl (fun ht => by cases ht) (fun _ => ?_)
 repeat (first|refine pw_ln rfl rfl aM ?_|refine ps_seq ?_|refine ps_ops0 mix ?_|refine ps_skip ?_)
 refine pw_cfp rfl rfl (apart_ok hp' hq') (by repeat (first|exact trivial|refine ⟨by assumption, ?_⟩)) ?_
 repeat (first|refine pw_mvt rfl ?_|refine pw_p rfl rfl ?_|refine pw_nil ?_|refine ps_seq ?_|refine ps_ops0 mix ?_)
 refine ps_sub (SubE.cons (k := 2) rfl (SubE.cons (k := 3) rfl (SubE.cons (k := 5) rfl (SubE.cons (k := 17) rfl (SubE.nil _))))) ?_
 generalize hn : far p q = n at *
 refine ps_if rfl rfl (fun ht => ?_) (fun ht => ?_)
 ·simp at ht
  repeat (first|refine pw_ln rfl rfl aM ?_|refine ps_seq ?_|refine ps_ops0 mix ?_)
  refine pw_b1 rfl rfl rfl ?_
  refine pw_mvt rfl (pw_nil (ps_ret ⟨_, rfl, ?_⟩))
  rw [lineP, if_pos (by omega)]
  refine ⟨⟨rfl, .inr ⟨H3.nx, true, rfl, by omega, ?_⟩⟩, fun b hb => by obtain rfl := Option.some.inj hb; simp; omega⟩
  exact Row.new (ptC p)
 ·simp at ht
  repeat (first|refine pw_mvt rfl ?_|refine pw_p rfl rfl ?_|refine ps_seq ?_|refine ps_ops0 mix ?_|refine ps_skip ?_)
  obtain ⟨N, hN⟩ : ∃ N : Nat, n = N := ⟨n.toNat, oM⟩
  subst hN
  rw [wrap_i64 (n := (N : Int) + 1) (by omega) (by omega)]
  refine pw_mkc (n := 0) (m := N + 1) rfl rfl rfl oM oM oM ?_
  have hr0 : PRoom (H3.push (.row ((N + 1) * 2) [.int .i64 0, .int .i64 0] .lf true)) H3.nx (N + 1) [] := PRoom.new (by rw [Hp.get_push, if_pos rfl])
  have hx4 := Ext.push hw3 (Ext.refl H3) (.row ((N + 1) * 2) [.int .i64 0, .int .i64 0] .lf true)
  replace hb1 := hb1.ext hx4
  replace hb2 := hb2.ext hx4
  have hn4 : (H3.push (.row ((N + 1) * 2) [.int .i64 0, .int .i64 0] .lf true)).nx = H.nx + 4 := by simp [hn3]
  generalize (H3.push (.row ((N + 1) * 2) [.int .i64 0, .int .i64 0] .lf true)) = H4 at *
  rw [hn3] at hr0 ⊢
  repeat (first|refine pw_mvt rfl ?_|refine pw_mvc ?_|refine pw_p rfl rfl ?_|refine pw_nil ?_|refine ps_seq ?_|refine ps_ops0 mix ?_|refine ps_block ?_)
  rw [wrap_i64 (n := (N : Int) + 1) (by omega) (by omega)]
  refine ps_loop (fun m E H' => ∃ k : Nat, k + m = N + 1 /\ E = [(2, .one (.ptr H.nx 0)), (3, .one (.ptr (H.nx + 1) 0)), (5, .int N), (6, .one (.slc (H.nx + 3) 0 k (N + 1) 2 true)), (24, .int (N + 1)), (25, .int k)] /\ H.nx + 4 <= H'.nx /\ Row H' H.nx (ptC p) /\ Row H' (H.nx + 1) (ptC q) /\ PRoom H' (H.nx + 3) (N + 1) ((List.range k).map (lineK p q N))) (m := N + 1) ⟨_, (SubE.cons (k := 2) rfl (SubE.cons (k := 3) rfl (SubE.cons (k := 5) rfl (SubE.cons (k := 6) rfl (SubE.cons (k := 24) rfl (SubE.cons (k := 25) rfl (SubE.nil _))))))), 0, oM, rfl, oM, hb1, hb2, hr0⟩ ?_
  rintro m E H' hwf' ⟨k, hk, rfl, hnx, g1, g2, hP'⟩
  have c0 := g1.cell (i := 0) rfl
  have c1 := g1.cell (i := 1) rfl
  have d0 := g2.cell (i := 0) rfl
  have d1 := g2.cell (i := 1) rfl
  obtain ⟨p1, p2, p3, p4⟩ := hp
  obtain ⟨q1, q2, q3, q4⟩ := hq
  repeat (first|refine pw_p rfl rfl ?_|refine pw_nil ?_|refine ps_seq ?_|refine ps_ops0 mix ?_)
  refine ps_if rfl rfl (fun ht2 => ?_) (fun ht2 => ?_)
  ·simp at ht2
   repeat (first|refine pw_mvt rfl ?_|refine pw_nil ?_|refine ps_seq ?_|refine ps_ops0 mix ?_|refine ps_skip ?_|refine ps_block ?_)
   refine ps_ops mix ?_
   repeat (first|refine pw_mvt rfl ?_|refine pw_p rfl rfl ?_|refine pw_l1 rfl rfl aM ?_|refine pw_lk1 rfl rfl aM ?_)
   refine pw_cfp rfl rfl (between_ok oM oM oM oM oM oM oM oM) (by repeat (first|exact trivial|refine ⟨by assumption, ?_⟩)) ?_
   skip
   refine pw_cfp rfl rfl (between_ok oM oM oM oM oM oM oM oM) (by repeat (first|exact trivial|refine ⟨by assumption, ?_⟩)) ?_
   repeat (first|refine pw_p rfl rfl ?_)
   refine pw_b1i (cs := ptC (lineK p q N k)) rfl rfl rfl ?_
   have hkl : ((List.range k).map (lineK p q N)).length = k := by simp
   generalize hH5 : Hp.add (Hp.skip H' 19) (H'.nx + 16) (.row (ptC (lineK p q N k)).length (ptC (lineK p q N k)) .lf true) = H5
   have hold : ∀ b, b < H'.nx -> H5.get b = H'.get b := fun b hb => by rw [<- hH5, Hp.get_add_ne _ _ (by omega), Hp.get_skip]
   have hsrc : H5.loads (H'.nx + 16) 0 (1 * 2) = some (ptC (lineK p q N k)) := loads_row (cs := ptC (lineK p q N k)) (rw := true) (by rw [<- hH5, Hp.get_add_self])
   obtain ⟨H6, a1, a2, a3, a4⟩ := (hP'.same (hold (H.nx + 3) (by omega))).append (by rw [hkl]; omega) 16 true (lineK p q N k)
   rw [hkl] at a1
   refine pw_app rfl rfl rfl (src_row hsrc) a1 (watch_all (allCtx.mem ?_)) ?_
   ·refine ⟨?_, ?_, trivial⟩
    ·exact ((g2.same (hold _ oM)).same (a3 _ oM)).cell rfl
    ·exact ((g1.same (hold _ oM)).same (a3 _ oM)).cell rfl
   repeat (first|refine pw_mvt rfl ?_|refine pw_p rfl rfl ?_|refine pw_nil ?_|refine ps_ops0 mix ?_)
   have hn6 : H6.nx = H'.nx + 19 := by rw [a4, <- hH5]; simp
   refine ⟨m - 1, oM, _, (SubE.cons (k := 2) rfl (SubE.cons (k := 3) rfl (SubE.cons (k := 5) rfl (SubE.cons (k := 6) rfl (SubE.cons (k := 24) rfl (SubE.cons (k := 25) rfl (SubE.nil _))))))), k + 1, oM, ?_, oM, (g1.same (hold _ oM)).same (a3 _ oM), (g2.same (hold _ oM)).same (a3 _ oM), ?_⟩
   ·rw [wrap_i64 (by omega) (by omega)]; rfl
   ·rw [List.range_succ, List.map_append]; exact a2
  ·simp at ht2
   obtain rfl : k = N + 1 := by omega
   refine ps_exit ?_
   repeat (first|refine pw_mvt rfl ?_|refine pw_nil ?_|refine ps_seq ?_|refine ps_ops0 mix ?_)
   refine ps_ret ⟨_, rfl, ?_⟩
   rw [lineP, hn, if_neg ht, Int.toNat_natCast]
   have := hP'.full (lo := H.nx) (hi := H'.nx) (ex := true) (by simp) (by omega) (by omega)
   simpa using this
theorem line_ok {H : Hp} {p q : Pt} (hp : Small 1000 p) (hq : Small 1000 q) : ACalls Tryz.prog 1 88 [Go.Ab.ptV p, Go.Ab.ptV q] H fun v H' => POwn H' H.nx H'.nx (lineP p q) v /\ Ext H H' :=
 (ACalls.grow (line_ro hp hq)).mono fun v H' ⟨H1, hg, e1, e2, e3, e4, _⟩ => by
  subst e1
  exact ⟨hg.same fun b hb => e4 b (hg.2 b hb).1, e3, e2⟩
theorem d_line {p q : Pt2} (hp : Small 1000 p) (hq : Small 1000 q) : DK 88 [ptD p, ptD q] fun d => d = ptsD (lineP p q) := fun H Z args hw hz hg ha => by
 rw [exVL_ok (ds := [ptD p, ptD q]) (vs := [Go.Ab.ptV p, Go.Ab.ptV q]) ⟨rfl, rfl, trivial⟩ ha]
 refine (ACalls.none (ACalls.wf (line_ok hp hq))).mono ?_
 rintro v H' ⟨⟨⟨ho, hx⟩, hw'⟩, hno⟩
 refine ⟨hw', hx.nx, fun b hb => ?_, _, rd_of_own ho fun b h1 h2 => .inr ⟨h1, h2⟩, rfl⟩
 cases hgb : H.get b with
 | none => exact hno b hb hgb
 | some bk => exact hx.get b bk hgb
theorem d_rline {p q : Pt2} (hp : Small 1000 p) (hq : Small 1000 q) : DK 63 [ptD p, ptD q] fun d => d = ptsD (lineP p q) := fun H Z args hw hz hg ha => by
 rw [exVL_ok (ds := [ptD p, ptD q]) (vs := [Go.Ab.ptV p, Go.Ab.ptV q]) ⟨rfl, rfl, trivial⟩ ha]
 refine (ACalls.none (ACalls.wf (rline_ok hp hq))).mono ?_
 rintro v H' ⟨⟨⟨ho, hx⟩, hw'⟩, hno⟩
 refine ⟨hw', hx.nx, fun b hb => ?_, _, rd_of_own ho fun b h1 h2 => .inr ⟨h1, h2⟩, rfl⟩
 cases hgb : H.get b with
 | none => exact hno b hb hgb
 | some bk => exact hx.get b bk hgb
theorem shift_div (x t : Int) {n : Int} (hn : 0 < n) : (x + 2 * n * t) / (2 * n) = x / (2 * n) + t := Int.add_mul_ediv_left x t oM
theorem half_div (a : Int) {n : Int} (hn : 0 < n) : (2 * (a * n) + n) / (2 * n) = a := by
 have h := shift_div n a hn
 rw [show n + 2 * n * a = 2 * (a * n) + n by rw [Int.mul_assoc, Int.mul_comm n a]; omega] at h
 rw [h, Int.ediv_eq_zero_of_lt (by omega) (by omega)]
 omega
theorem betw_zero (a b : Int) {n : Int} (hn : 0 < n) : betw a b 0 n = a := by
 unfold betw
 rw [Int.zero_mul, Int.add_zero]
 exact half_div a hn
theorem betw_full (a b : Int) {n : Int} (hn : 0 < n) : betw a b n n = b := by
 unfold betw
 rw [show a * n + n * (b - a) = b * n by rw [Int.mul_sub, Int.mul_comm n b, Int.mul_comm n a]; omega]
 exact half_div b hn
theorem betw_in (a b k : Int) {n : Int} (hn : 0 < n) (h0 : 0 <= k) (h1 : k <= n) : min a b <= betw a b k n /\ betw a b k n <= max a b := by
 have e := half_div (min a b) hn
 have f := half_div (max a b) hn
 have hx : min a b * n <= a * n + k * (b - a) /\ a * n + k * (b - a) <= max a b * n := by
  by_cases hab : a <= b
  ·rw [Int.min_eq_left hab, Int.max_eq_right hab]
   have g1 : 0 <= k * (b - a) := Int.mul_nonneg h0 oM
   have g2 : k * (b - a) <= n * (b - a) := Int.mul_le_mul_of_nonneg_right h1 oM
   rw [Int.mul_sub n, Int.mul_comm n b, Int.mul_comm n a] at g2
   omega
  ·rw [Int.min_eq_right (by omega), Int.max_eq_left (by omega)]
   have g1 : 0 <= k * (a - b) := Int.mul_nonneg h0 oM
   have g2 : k * (a - b) <= n * (a - b) := Int.mul_le_mul_of_nonneg_right h1 oM
   rw [Int.mul_sub n, Int.mul_comm n b, Int.mul_comm n a] at g2
   have g3 : k * (b - a) = - (k * (a - b)) := by rw [<- Int.mul_neg]; congr 1; omega
   omega
 unfold betw
 constructor
 ·have := Int.ediv_le_ediv (a := 2 * (min a b * n) + n) (b := 2 * (a * n + k * (b - a)) + n) (c := 2 * n) oM oM
  omega
 ·have := Int.ediv_le_ediv (a := 2 * (a * n + k * (b - a)) + n) (b := 2 * (max a b * n) + n) (c := 2 * n) oM oM
  omega
theorem lineP_len (p q : Pt2) : (lineP p q).length = (far p q).toNat + 1 := by
 unfold lineP
 split
 ·rename_i h; rw [h]; rfl
 ·simp
def lineAt (p q : Pt2) (k : Nat) : Pt2 := if far p q = 0 then p else lineK p q (far p q) k
theorem lineP_at (p q : Pt2) {k : Nat} (hk : (k : Int) <= far p q) : (lineP p q)[k]? = some (lineAt p q k) := by
 unfold lineP lineAt
 split
 ·rename_i h
  obtain rfl : k = 0 := by omega
  rfl
 ·rw [List.getElem?_map, List.getElem?_range (by omega)]; rfl
theorem far_abs (p q : Pt2) : far p q = max (q.1 - p.1) (max (p.1 - q.1) (max (q.2 - p.2) (p.2 - q.2))) := by simp only [far]; omega
theorem lineAt_zero (p q : Pt2) : lineAt p q 0 = p := by
 have := far_abs p q
 unfold lineAt
 split
 ·rfl
 ·simp only [lineK]
  rw [Int.natCast_zero, betw_zero _ _ (by omega), betw_zero _ _ (by omega)]
theorem lineAt_full (p q : Pt2) : lineAt p q (far p q).toNat = q := by
 have h := far_abs p q
 unfold lineAt
 split
 ·obtain ⟨p1, p2⟩ := p
  obtain ⟨q1, q2⟩ := q
  simp only [Prod.mk.injEq] at *
  omega
 ·simp only [lineK]
  rw [Int.toNat_of_nonneg (by omega), betw_full _ _ (by omega), betw_full _ _ (by omega)]
theorem lineAt_in (p q : Pt2) {k : Nat} (hk : (k : Int) <= far p q) : min p.1 q.1 <= (lineAt p q k).1 /\ (lineAt p q k).1 <= max p.1 q.1 /\ min p.2 q.2 <= (lineAt p q k).2 /\ (lineAt p q k).2 <= max p.2 q.2 := by
 have h := far_abs p q
 unfold lineAt
 split
 ·omega
 ·simp only [lineK]
  have h1 := betw_in p.1 q.1 k (n := far p q) oM oM hk
  have h2 := betw_in p.2 q.2 k (n := far p q) oM oM hk
  omega
theorem x_sfunc {l : List Pt2} (hl : l.Nodup) (h0 : 0 < l.length) (hn : l.length < 1000000) : DKX 67 [.one (.fn 86 [(1, 0)]), fnK 69] [(0, mapB l), (1, .cells [.om 0])] 2
  fun d S' nk' => d = .one (.own 6 0 (sortedP l).length 2) /\ SubA [(6, .data ((sortedP l).flatMap ptF))] S' /\ nk' = 7 := by
 refine dxk_ok cp67 rfl fun Z β H lo => ?_
 refine goD ?_; intros
 refine dw_cx rfl rfl rfl (DX.sub (x_coll hl hn _ _ _ _ _) (SubA.cons rfl (SubA.cons rfl (SubA.nil _)))) ?_
 rintro _ S' _ ⟨out, h1, h2, rfl, h3, h4, rfl⟩
 refine dw_keep (SubA.refl _) h4 ?_
 have hp : 0 < out.length := by
  cases out with
  | nil =>
   cases l with
   | nil => simp at h0
   | cons x l => exact absurd ((h2 x).2 (by simp)) (by simp)
  | cons => simp
 refine goD ?_; intros
 refine dw_cx rfl rfl rfl (dx_sortK cmp69 (k := 6) (l := out) rfl hp oM _ _ _ _ _) ?_
 rintro _ _ _ ⟨rfl, rfl, l', hp', hs, rfl⟩
 have hl' : l'.Nodup := hp'.symm.nodup h1
 have he : l' = sortedP l := ByRows.ext (rows_of_sorted hs hl') (sortedP_rows l) fun p => by rw [sortedP_mem, hp'.mem_iff, h2]
 have hlen : out.length = (sortedP l).length := by rw [<- he, hp'.length_eq]
 rw [hlen, he]
 refine goD ?_; intros
 exact ds_ret ⟨_, rfl, rfl, _, SubA.refl _, rfl, SubA.cons rfl (SubA.nil _), rfl⟩
theorem x_sorted {l : List Pt2} (hl : l.Nodup) (h0 : 0 < l.length) (hn : l.length < 1000000) : DKX 54 [.one (.om 0)] [(0, mapB l)] 1
  fun d S' nk' => d = .one (.own 6 0 (sortedP l).length 2) /\ SubA [(6, .data ((sortedP l).flatMap ptF))] S' /\ nk' = 7 := by
 refine dxk_ok cp54 rfl fun Z β H lo => ?_
 refine goD ?_; intros
 refine dw_cx rfl rfl rfl (x_mkeys l _ _ _ _ _) ?_
 rintro _ S' _ ⟨rfl, h4, rfl⟩
 refine dw_keep (SubA.refl _) h4 ?_
 refine goD ?_; intros
 refine dw_cx rfl rfl rfl (x_sfunc hl h0 hn _ _ _ _ _) ?_
 rintro _ S' _ ⟨rfl, h4, rfl⟩
 refine dw_keep (SubA.refl _) h4 ?_
 refine goD ?_; intros
 exact ds_ret ⟨_, rfl, rfl, _, SubA.refl _, rfl, SubA.cons rfl (SubA.nil _), rfl⟩
def putL (l L : List Pt2) : List Pt2 := L.foldl putP l
theorem putL_mem {p : Pt2} : ∀ {L l : List Pt2}, p ∈ putL l L ↔ p ∈ l \/ p ∈ L
 | [], l => by simp [putL]
 | q :: L, l => by
  show p ∈ putL (putP l q) L ↔ _
  rw [putL_mem, putP_mem, List.mem_cons, or_assoc]
theorem putL_nodup : ∀ {L l : List Pt2}, l.Nodup -> (putL l L).Nodup
 | [], _, h => h
 | q :: L, _, h => putL_nodup (L := L) (putP_nodup h)
theorem putP_le (l : List Pt2) (p : Pt2) : l.length <= (putP l p).length /\ (putP l p).length <= l.length + 1 := by
 unfold putP
 split
 ·omega
 ·rw [List.length_append, List.length_singleton]; omega
theorem putL_le : ∀ (L l : List Pt2), l.length <= (putL l L).length /\ (putL l L).length <= l.length + L.length
 | [], l => by simp [putL]
 | q :: L, l => by
  have := putL_le L (putP l q)
  have := putP_le l q
  show _ <= (putL (putP l q) L).length /\ (putL (putP l q) L).length <= _
  rw [List.length_cons]
  omega
theorem putL_take {l L : List Pt2} {i : Nat} {p : Pt2} (h : L[i]? = some p) : putL l (L.take (i + 1)) = putP (putL l (L.take i)) p := by
 unfold putL
 rw [List.take_add_one, h, List.foldl_append]
 rfl
theorem lineP_len_le {p q : Pt2} (hp : Small 1000 p) (hq : Small 1000 q) : (lineP p q).length <= 2001 := by
 have h1 := lineP_len p q
 have h2 := far_abs p q
 unfold Small at hp hq
 omega
theorem x_add {l : List Pt2} {a b : Pt2} (ha : Small 1000 a) (hb : Small 1000 b) : DKX 72 [.one (.om 0), ptD a, ptD b] [(0, mapB l)] 1
  fun d S' nk' => d = .tup [] /\ SubA [(0, mapB (putL l (lineP a b)))] S' /\ nk' = 1 := by
 refine dxk_ok cp72 rfl fun Z β H lo => ?_
 have hln := lineP_len_le ha hb
 refine goD ?_; intros
 refine dw_cf rfl rfl (d_line ha hb) ?_
 rintro _ rfl
 refine goD ?_; intros
 refine ds_loop (fun m E S nk => ∃ i : Nat, i + m = (lineP a b).length /\ E = [(0, .one (.om 0)), (10, ptsD (lineP a b)), (11, .int (lineP a b).length), (12, .int i)] /\ S = [(0, mapB (putL l ((lineP a b).take i)))] /\ nk = 1)
  ⟨(lineP a b).length, _, _, _, [], ?wk, 0, oM, rfl, rfl, rfl⟩ ?_
 case wk => exact wkA
 rintro m E S nk ⟨i, hi, rfl, rfl, rfl⟩
 refine goD ?_; intros
 refine ds_if rfl (fun ht => ?_) (fun ht => ?_)
 ·have ht : i < (lineP a b).length := by simpa using ht
  obtain ⟨q, hq⟩ : ∃ q, (lineP a b)[i]? = some q := ⟨_, List.getElem?_eq_getElem ht⟩
  have e1 := ptF_at hq
  refine goD ?_; intros
  refine dw_stupd rfl rfl rfl rfl (stUp_pt _ q) rfl ?_
  rw [<- putL_take hq]
  refine goD ?_; intros
  refine ⟨m - 1, oM, _, _, _, [], ?wk1, i + 1, oM, rfl, rfl, rfl⟩
  case wk1 => exact wkA
 ·have ht : i = (lineP a b).length := by have : ¬ i < (lineP a b).length := by simpa using ht
                                         omega
  subst ht
  rw [List.take_length]
  refine goD ?_; intros
  exact ⟨_, rfl, rfl, _, SubA.refl _, rfl, SubA.cons rfl (SubA.nil _), rfl⟩
def Smalls3 (L : List Pt2) : Prop := ∀ p ∈ L, Small 1000 p
structure Along (L : List Pt2) (n : Nat) (l : List Pt2) : Prop where
 nd : l.Nodup
 le : l.length <= 2001 * n
 mem : ∀ p, p ∈ l ↔ ∃ (i : Nat) (a b : Pt2), i < n /\ L[i]? = some a /\ L[i + 1]? = some b /\ p ∈ lineP a b
theorem Along.zero (L : List Pt2) : Along L 0 [] := ⟨List.nodup_nil, by simp, fun p => by simp⟩
theorem Along.succ {L l : List Pt2} {n : Nat} {a b : Pt2} (h : Along L n l) (ha : L[n]? = some a) (hb : L[n + 1]? = some b) (hl : Smalls3 L) : Along L (n + 1) (putL l (lineP a b)) := by
 refine ⟨putL_nodup h.nd, ?_, fun p => ?_⟩
 ·have h1 := (putL_le (lineP a b) l).2
  have h2 := lineP_len_le (hl a (List.mem_of_getElem? ha)) (hl b (List.mem_of_getElem? hb))
  have h3 := h.le
  omega
 ·rw [putL_mem, h.mem]
  constructor
  ·rintro (⟨i, a', b', h1, h2, h3, h4⟩|h1)
   ·exact ⟨i, a', b', oM, h2, h3, h4⟩
   ·exact ⟨n, a, b, oM, ha, hb, h1⟩
  ·rintro ⟨i, a', b', h1, h2, h3, h4⟩
   by_cases hi : i = n
   ·subst hi
    rw [ha] at h2
    rw [hb] at h3
    obtain rfl := Option.some.inj h2
    obtain rfl := Option.some.inj h3
    exact .inr h4
   ·exact .inl ⟨i, a', b', oM, h2, h3, h4⟩
theorem do_along {L : List Pt2} (hl : Smalls3 L) (hn : L.length < 100) : DKO 55 [ptsD L] fun d S nk => ∃ l, Along L (L.length - 1) l /\ d = .one (.om 0) /\ S = [(0, mapB l)] /\ nk = 1 := by
 refine dfnO_ok cp55 rfl GHro fun Z0 lo => ?_
 refine goD ?_; intros
 refine dw_mkst ?_
 refine goD ?_; intros
 refine ds_loop (fun m E S nk => ∃ (i : Nat) (l : List Pt2), i + m = L.length /\ (i = 0 \/ i < L.length) /\ Along L i l /\ E = [(0, ptsD L), (3, .one (.om 0)), (4, .int (i + 1 : Nat))] /\ S = [(0, mapB l)] /\ nk = 1)
  ⟨L.length, _, _, _, [], ?wk, 0, [], oM, .inl rfl, Along.zero L, rfl, rfl, rfl⟩ ?_
 case wk => exact wkA
 rintro m E S nk ⟨i, l, hi, hi0, hA, rfl, rfl, rfl⟩
 refine goD ?_; intros
 refine ds_if rfl (fun ht => ?_) (fun ht => ?_)
 ·have ht : i + 1 < L.length := by have := of_decide_eq_true ht; omega
  obtain ⟨a, ha⟩ : ∃ q, L[i]? = some q := ⟨_, List.getElem?_eq_getElem oM⟩
  obtain ⟨b, hb⟩ : ∃ q, L[i + 1]? = some q := ⟨_, List.getElem?_eq_getElem ht⟩
  have e1 := ptF_at ha
  have e2 := ptF_at hb
  have hw : IntKind.i64.wrap (((i + 1 : Nat) : Int) - 1) = ((i : Nat) : Int) := by rw [dwrap (by omega) (by omega)]; omega
  refine goD ?_; intros
  rw [hw]
  refine goD ?_; intros
  refine dw_cx rfl rfl rfl (x_add (hl a (List.mem_of_getElem? ha)) (hl b (List.mem_of_getElem? hb)) _ _ _ _ _) ?_
  rintro _ S' _ ⟨rfl, hS, rfl⟩
  refine dw_keep (SubA.refl _) hS ?_
  refine goD ?_; intros
  refine ⟨m - 1, oM, _, _, _, [], ?wk1, i + 1, _, oM, .inr oM, hA.succ ha hb hl, rfl, rfl, rfl⟩
  case wk1 => exact wkA
 ·have ht : L.length <= i + 1 := by have := of_decide_eq_false ht; omega
  obtain rfl : i = L.length - 1 := by omega
  refine goD ?_; intros
  exact ds_ret ⟨_, rfl, rfl, _, SubA.refl _, l, hA, rfl, rfl, rfl⟩
def nxt (L : List Pt2) (i : Nat) : Nat := (i + 1) % L.length
structure Around (L : List Pt2) (l : List Pt2) : Prop where
 nd : l.Nodup
 le : l.length <= 2001 * L.length
 mem : ∀ p, p ∈ l ↔ ∃ (i : Nat) (a b : Pt2), L[i]? = some a /\ L[nxt L i]? = some b /\ p ∈ lineP a b
theorem Along.around {L l : List Pt2} {a b : Pt2} (h : Along L (L.length - 1) l) (hl : Smalls3 L) (h0 : 0 < L.length) (ha : L[L.length - 1]? = some a) (hb : L[0]? = some b) : Around L (putL l (lineP a b)) := by
 refine ⟨putL_nodup h.nd, ?_, fun p => ?_⟩
 ·have h1 := (putL_le (lineP a b) l).2
  have h2 := lineP_len_le (hl a (List.mem_of_getElem? ha)) (hl b (List.mem_of_getElem? hb))
  have h3 := h.le
  omega
 ·rw [putL_mem, h.mem]
  constructor
  ·rintro (⟨i, a', b', h1, h2, h3, h4⟩|h1)
   ·exact ⟨i, a', b', h2, by rw [nxt, Nat.mod_eq_of_lt (by omega)]; exact h3, h4⟩
   ·exact ⟨L.length - 1, a, b, ha, by rw [nxt, show L.length - 1 + 1 = L.length by omega, Nat.mod_self]; exact hb, h1⟩
  ·rintro ⟨i, a', b', h2, h3, h4⟩
   have hi := (List.getElem?_eq_some_iff.1 h2).1
   by_cases hx : i = L.length - 1
   ·subst hx
    rw [ha] at h2
    rw [nxt, show L.length - 1 + 1 = L.length by omega, Nat.mod_self, hb] at h3
    obtain rfl := Option.some.inj h2
    obtain rfl := Option.some.inj h3
    exact .inr h4
   ·rw [nxt, Nat.mod_eq_of_lt (by omega)] at h3
    exact .inl ⟨i, a', b', oM, h2, h3, h4⟩
theorem do_around {L : List Pt2} (hl : Smalls3 L) (h0 : 0 < L.length) (hn : L.length < 100) : DKO 56 [ptsD L] fun d S nk => ∃ l, Around L l /\ d = .one (.om 0) /\ S = [(0, mapB l)] /\ nk = 1 := by
 refine dfnO_ok cp56 rfl GHro fun Z0 lo => ?_
 obtain ⟨a, ha⟩ : ∃ q, L[L.length - 1]? = some q := ⟨_, List.getElem?_eq_getElem oM⟩
 obtain ⟨b, hb⟩ : ∃ q, L[0]? = some q := ⟨_, List.getElem?_eq_getElem oM⟩
 have e1 := ptF_at ha
 have e2 := ptF_at hb
 have hw : IntKind.i64.wrap ((L.length : Int) - 1) = ((L.length - 1 : Nat) : Int) := by rw [dwrap (by omega) (by omega)]; omega
 refine goD ?_; intros
 refine dw_cfr rfl rfl (do_along hl hn) ?_
 rintro _ _ _ ⟨l, hA, rfl, rfl, rfl⟩
 refine dw_keep (S0 := [(0, mapB l)]) (SubA.refl _) (SubA.cons rfl (SubA.nil _)) ?_
 refine goD ?_; intros
 refine ds_if rfl (fun _ => ?_) (fun ht => ?_)
 ·refine goD ?_; intros
  rw [hw]
  refine goD ?_; intros
  refine dw_cx rfl rfl rfl (x_add (hl a (List.mem_of_getElem? ha)) (hl b (List.mem_of_getElem? hb)) _ _ _ _ _) ?_
  rintro _ S' _ ⟨rfl, hS, rfl⟩
  refine dw_keep (SubA.refl _) hS ?_
  refine goD ?_; intros
  exact ds_ret ⟨_, rfl, rfl, _, SubA.refl _, _, hA.around hl h0 ha hb, rfl, rfl, rfl⟩
 ·have := of_decide_eq_false ht
  omega
def crs (a b p : Pt2) : Int := (b.1 - a.1) * (p.2 - a.2) - (b.2 - a.2) * (p.1 - a.1)
def onP (a b p : Pt2) : Bool := decide (crs a b p = 0) && (decide (min a.1 b.1 <= p.1) && decide (p.1 <= max a.1 b.1) && decide (min a.2 b.2 <= p.2) && decide (p.2 <= max a.2 b.2))
def pasP (a b p : Pt2) : Bool := if decide (a.2 <= p.2) = decide (b.2 <= p.2) then false else if a.2 < b.2 then decide ((p.1 - a.1) * (b.2 - a.2) < (p.2 - a.2) * (b.1 - a.1)) else decide ((p.2 - a.2) * (b.1 - a.1) < (p.1 - a.1) * (b.2 - a.2))
theorem small_sub {p q : Pt2} (hp : Small 1000 p) (hq : Small 1000 q) : (-2000 <= p.1 - q.1 /\ p.1 - q.1 <= 2000) /\ (-2000 <= p.2 - q.2 /\ p.2 - q.2 <= 2000) := by
 unfold Small at hp hq; omega
theorem mulw {a b : Int} (ha : -2000 <= a /\ a <= 2000) (hb : -2000 <= b /\ b <= 2000) : IntKind.i64.wrap (IntKind.i64.wrap a * IntKind.i64.wrap b) = a * b := by
 rw [dwrap (n := a) (by omega) (by omega), dwrap (n := b) (by omega) (by omega)]
 have := mul_bd (A := 2000) (B := 2000) ha.1 ha.2 hb.1 hb.2
 exact dwrap oM oM
theorem crs_same {a b : Pt2} : onP a b a = true /\ onP a b b = true := by
 have e1 : (b.1 - a.1) * (b.2 - a.2) - (b.2 - a.2) * (b.1 - a.1) = 0 := by rw [Int.mul_comm]; omega
 constructor
 ·simp [onP, crs]; omega
 ·simp [onP, crs, e1]; omega
theorem bne_false' {a b : Int} (h : (a != b) = false) : a = b := by simpa using h
theorem bne_true' {a b : Int} (h : (a != b) = true) : a ≠ b := by simpa using h
theorem ifs4 : ∀ x y z w : Bool, (x && y && z && w) = (if (if (if x = true then y else false) = true then z else false) = true then w else false) := by decide
theorem ifs5 : ∀ v x y z w : Bool, (v && (x && y && z && w)) = (if (if (if (if v = true then x else false) = true then y else false) = true then z else false) = true then w else false) := by decide
theorem d_on {a b p : Pt2} (ha : Small 1000 a) (hb : Small 1000 b) (hp : Small 1000 p) : DK 77 [ptD a, ptD b, ptD p] fun d => d = .bool (onP a b p) := by
 refine dfn_ok cp77 rfl GHro fun Z0 lo => ?_
 have w1 := mulw (small_sub hb ha).1 (small_sub hp ha).2
 have w2 := mulw (small_sub hb ha).2 (small_sub hp ha).1
 by_cases h1 : p = a
 ·refine goD ?_; intros
  refine dw_pB (d_eqpt (p := p) (q := a) rfl rfl) (b := true) (by simpa using h1) ?_
  refine goD ?_; intros
  refine ds_if rfl (fun _ => ?_) (fun ht => by cases ht)
  refine goD ?_; intros
  exact ds_ret ⟨_, rfl, rfl, by rw [h1, crs_same.1]⟩
 ·by_cases h2 : p = b
  ·refine goD ?_; intros
   refine dw_pB (d_eqpt (p := p) (q := a) rfl rfl) (b := false) (by simpa using h1) ?_
   refine goD ?_; intros
   refine dw_pB (d_eqpt (p := p) (q := b) rfl rfl) (b := true) (by simpa using h2) ?_
   refine goD ?_; intros
   refine ds_if rfl (fun _ => ?_) (fun ht => by cases ht)
   refine goD ?_; intros
   exact ds_ret ⟨_, rfl, rfl, by rw [h2, crs_same.2]⟩
  ·refine goD ?_; intros
   refine dw_pB (d_eqpt (p := p) (q := a) rfl rfl) (b := false) (by simpa using h1) ?_
   refine goD ?_; intros
   refine dw_pB (d_eqpt (p := p) (q := b) rfl rfl) (b := false) (by simpa using h2) ?_
   refine goD ?_; intros
   refine ds_if rfl (fun ht => by cases ht) (fun _ => ?_)
   refine goD ?_; intros
   refine ds_if rfl (fun ht => ?_) (fun ht => ?_)
   ·have ht := bne_true' ht
    rw [w1, w2] at ht
    refine goD ?_; intros
    exact ds_ret ⟨_, rfl, rfl, by rw [onP, decide_eq_false (by unfold crs; omega), Bool.false_and]⟩
   ·have ht := bne_false' ht
    rw [w1, w2] at ht
    have e0 : crs a b p = 0 := by unfold crs; omega
    refine goD ?_; intros
    refine ds_ret ⟨_, rfl, rfl, ?_⟩
    rw [onP, decide_eq_true e0, Bool.true_and]
    refine congrArg DV.bool ?_
    simp only [Bool.false_eq_true, if_false, if_true]
    rw [show (if b.1 > a.1 then b.1 else a.1) = max a.1 b.1 by omega, show (if b.2 > a.2 then b.2 else a.2) = max a.2 b.2 by omega, show (if b.2 < a.2 then b.2 else a.2) = min a.2 b.2 by omega]
    exact (ifs4 _ _ _ _).symm
theorem d_turn {a b p : Pt2} (ha : Small 1000 a) (hb : Small 1000 b) (hp : Small 1000 p) : DK 83 [ptD a, ptD b, ptD p] fun d => d = .int (crs a b p) := by
 refine dfn_ok cp83 rfl GHro fun Z0 lo => ?_
 have w1 := mulw (small_sub hb ha).1 (small_sub hp ha).2
 have w2 := mulw (small_sub hb ha).2 (small_sub hp ha).1
 have b1 := mul_bd (A := 2000) (B := 2000) (small_sub hb ha).1.1 (small_sub hb ha).1.2 (small_sub hp ha).2.1 (small_sub hp ha).2.2
 have b2 := mul_bd (A := 2000) (B := 2000) (small_sub hb ha).2.1 (small_sub hb ha).2.2 (small_sub hp ha).1.1 (small_sub hp ha).1.2
 refine goD ?_; intros
 refine ds_ret ⟨_, rfl, rfl, ?_⟩
 refine congrArg DV.int ?_
 rw [w1, w2]
 exact dwrap oM oM
theorem d_ron {a b p : Pt2} (ha : Small 1000 a) (hb : Small 1000 b) (hp : Small 1000 p) : DK 64 [ptD a, ptD b, ptD p] fun d => d = .bool (onP a b p) := by
 refine dfn_ok cp64 rfl GHro fun Z0 lo => ?_
 refine goD ?_; intros
 refine dw_cf rfl rfl (d_turn ha hb hp) ?_
 rintro _ rfl
 refine goD ?_; intros
 refine ds_ret ⟨_, rfl, rfl, ?_⟩
 refine congrArg DV.bool ?_
 simp only [Bool.false_eq_true, if_false, if_true]
 rw [show (if b.1 > a.1 then b.1 else a.1) = max a.1 b.1 by omega, show (if b.1 < a.1 then b.1 else a.1) = min a.1 b.1 by omega, show (if b.2 > a.2 then b.2 else a.2) = max a.2 b.2 by omega, show (if b.2 < a.2 then b.2 else a.2) = min a.2 b.2 by omega, show (crs a b p == 0) = decide (crs a b p = 0) from rfl]
 exact (ifs5 _ _ _ _ _).symm
theorem d_pas {a b p : Pt2} (ha : Small 1000 a) (hb : Small 1000 b) (hp : Small 1000 p) : DK 78 [ptD a, ptD b, ptD p] fun d => d = .bool (pasP a b p) := by
 refine dfn_ok cp78 rfl GHro fun Z0 lo => ?_
 have w1 := mulw (small_sub hp ha).2 (small_sub hb ha).1
 have w2 := mulw (small_sub hp ha).1 (small_sub hb ha).2
 refine goD ?_; intros
 refine ds_if rfl (fun ht => ?_) (fun ht => ?_)
 ·refine goD ?_; intros
  refine ds_ret ⟨_, rfl, rfl, ?_⟩
  rw [pasP, if_pos (by simpa using ht)]
 ·refine goD ?_; intros
  refine ds_if rfl (fun h2 => ?_) (fun h2 => ?_)
  ·refine goD ?_; intros
   refine ds_ret ⟨_, rfl, rfl, ?_⟩
   have h2 := of_decide_eq_true h2
   rw [pasP, if_neg (by simpa using ht), if_pos (by omega), <- w1, <- w2]
  ·refine goD ?_; intros
   refine ds_ret ⟨_, rfl, rfl, ?_⟩
   have h2 := of_decide_eq_false h2
   rw [pasP, if_neg (by simpa using ht), if_neg (by omega), <- w1, <- w2]
theorem d_rpas {a b p : Pt2} (ha : Small 1000 a) (hb : Small 1000 b) (hp : Small 1000 p) : DK 65 [ptD a, ptD b, ptD p] fun d => d = .bool (pasP a b p) := by
 refine dfn_ok cp65 rfl GHro fun Z0 lo => ?_
 have w1 := mulw (small_sub hp ha).2 (small_sub hb ha).1
 have w2 := mulw (small_sub hp ha).1 (small_sub hb ha).2
 refine goD ?_; intros
 refine ds_if rfl (fun ht => ?_) (fun ht => ?_)
 ·refine goD ?_; intros
  refine ds_ret ⟨_, rfl, rfl, ?_⟩
  rw [pasP, if_pos (by simpa using ht)]
 ·refine goD ?_; intros
  refine ds_if rfl (fun h2 => ?_) (fun h2 => ?_)
  ·refine goD ?_; intros
   refine ds_ret ⟨_, rfl, rfl, ?_⟩
   have h2 := of_decide_eq_true h2
   rw [pasP, if_neg (by simpa using ht), if_pos (by omega), <- w1, <- w2]
  ·refine goD ?_; intros
   refine ds_ret ⟨_, rfl, rfl, ?_⟩
   have h2 := of_decide_eq_false h2
   rw [pasP, if_neg (by simpa using ht), if_neg (by omega), <- w1, <- w2]
def at0 (L : List Pt2) (i : Nat) : Pt2 := (L[i]?).getD (0, 0)
def sOn (L : List Pt2) (p : Pt2) (i : Nat) : Bool := onP (at0 L i) (at0 L (nxt L i)) p
def sPas (L : List Pt2) (p : Pt2) (i : Nat) : Bool := pasP (at0 L i) (at0 L (nxt L i)) p
def odds (L : List Pt2) (p : Pt2) : Nat -> Bool
 | 0 => false
 | n + 1 => xor (odds L p n) (sPas L p n)
def inP (L : List Pt2) (p : Pt2) : Bool := (List.range L.length).any (sOn L p) || odds L p L.length
theorem at0_of {L : List Pt2} {i : Nat} {a : Pt2} (h : L[i]? = some a) : at0 L i = a := by rw [at0, h]; rfl
theorem inP_true {L : List Pt2} {p : Pt2} {i : Nat} (hi : i < L.length) (h : sOn L p i = true) : inP L p = true := by
 rw [inP, List.any_eq_true.2 ⟨i, List.mem_range.2 hi, h⟩, Bool.true_or]
theorem inP_end {L : List Pt2} {p : Pt2} (h : ∀ i, i < L.length -> sOn L p i = false) : inP L p = odds L p L.length := by
 have : (List.range L.length).any (sOn L p) = false := by
  rw [List.any_eq_false]
  intro i hi
  rw [h i (List.mem_range.1 hi)]
  decide
 rw [inP, this, Bool.false_or]
theorem nxt_rem {L : List Pt2} {i : Nat} (_ : i < L.length) : Int.tmod ((i : Int) + 1) (L.length : Int) = ((nxt L i : Nat) : Int) := by
 rw [Int.tmod_eq_emod_of_nonneg (by omega)]
 simp [nxt]
theorem d_inside {L : List Pt2} {p : Pt2} (hl : Smalls3 L) (hp : Small 1000 p) (hn : L.length < 100) : DK 58 [ptsD L, ptD p] fun d => d = .bool (inP L p) := by
 refine dfn_ok cp58 rfl GHro fun Z0 lo => ?_
 refine goD ?_; intros
 refine ds_loop (fun m E S nk => ∃ i : Nat, i + m = L.length /\ (∀ j, j < i -> sOn L p j = false) /\ E = [(0, ptsD L), (3, .one (.ptr 0 0)), (5, .bool (odds L p i)), (9, ptsD L), (10, .int L.length), (11, .int i)] /\ S = [(0, .cells [.f (.c (.int .i64 p.1)), .f (.c (.int .i64 p.2))])] /\ nk = 1)
  ⟨L.length, _, _, _, [], ?wk, 0, oM, fun j hj => oM, rfl, rfl, rfl⟩ ?_
 case wk => exact wkA
 rintro m E S nk ⟨i, hi, hno, rfl, rfl, rfl⟩
 refine goD ?_; intros
 refine ds_if rfl (fun ht => ?_) (fun ht => ?_)
 ·have ht : i < L.length := by have := of_decide_eq_true ht; omega
  have hnx : nxt L i < L.length := Nat.mod_lt _ oM
  obtain ⟨a, ha⟩ : ∃ q, L[i]? = some q := ⟨_, List.getElem?_eq_getElem ht⟩
  obtain ⟨b, hb⟩ : ∃ q, L[nxt L i]? = some q := ⟨_, List.getElem?_eq_getElem hnx⟩
  have e1 := ptF_at ha
  have e2 := ptF_at hb
  have hsa := hl a (List.mem_of_getElem? ha)
  have hsb := hl b (List.mem_of_getElem? hb)
  have hw : IntKind.i64.wrap ((i : Int) + 1) = (i : Int) + 1 := dwrap oM oM
  refine goD ?_; intros
  rw [hw]
  refine dw_rem rfl rfl oM ?_
  rw [nxt_rem ht]
  refine goD ?_; intros
  refine dw_cf rfl rfl (d_on hsa hsb hp) ?_
  rintro _ rfl
  refine goD ?_; intros
  refine ds_if rfl (fun ho => ?_) (fun ho => ?_)
  ·refine goD ?_; intros
   refine ds_ret ⟨_, rfl, rfl, ?_⟩
   rw [inP_true ht (by rw [sOn, at0_of ha, at0_of hb]; exact ho)]
  ·have ho : sOn L p i = false := by rw [sOn, at0_of ha, at0_of hb]; exact ho
   refine goD ?_; intros
   refine dw_cf rfl rfl (d_pas hsa hsb hp) ?_
   rintro _ rfl
   refine goD ?_; intros
   refine ds_if rfl (fun hq => ?_) (fun hq => ?_)
   ·refine goD ?_; intros
    refine ⟨m - 1, oM, _, _, _, [], ?wk1, i + 1, oM, ?hno, rfl, rfl, rfl⟩
    case hno =>
     intro j hj
     by_cases hji : j = i
     ·rw [hji, ho]
     ·exact hno j oM
    case wk1 =>
     have : (!odds L p i) = odds L p (i + 1) := by rw [odds, sPas, at0_of ha, at0_of hb, hq]; cases odds L p i <;> rfl
     rw [this]
     exact wkA
   ·have : odds L p (i + 1) = odds L p i := by rw [odds, sPas, at0_of ha, at0_of hb, hq]; cases odds L p i <;> rfl
    refine goD ?_; intros
    refine ⟨m - 1, oM, _, _, _, [], ?wk2, i + 1, oM, ?hno2, rfl, rfl, rfl⟩
    case hno2 =>
     intro j hj
     by_cases hji : j = i
     ·rw [hji, ho]
     ·exact hno j oM
    case wk2 =>
     rw [this]
     exact wkA
 ·have ht : i = L.length := by have := of_decide_eq_false ht; omega
  subst ht
  refine goD ?_; intros
  refine ds_ret ⟨_, rfl, rfl, ?_⟩
  rw [inP_end hno]
theorem d_side {L : List Pt2} {i : Nat} {a b : Pt2} (hn : L.length < 100) (ht : i < L.length) (ha : L[i]? = some a) (hb : L[nxt L i]? = some b) : DK 62 [ptsD L, .int i] fun d => d = .tup [ptD a, ptD b] := by
 refine dfn_ok cp62 rfl GHro fun Z0 lo => ?_
 have hnx : nxt L i < L.length := Nat.mod_lt _ oM
 have e1 := ptF_at ha
 have e2 := ptF_at hb
 have hw : IntKind.i64.wrap ((i : Int) + 1) = (i : Int) + 1 := dwrap oM oM
 refine goD ?_; intros
 rw [hw]
 refine dw_rem rfl rfl oM ?_
 rw [nxt_rem ht]
 refine goD ?_; intros
 exact ds_ret ⟨_, rfl, rfl, rfl⟩
theorem d_rinside {L : List Pt2} {p : Pt2} (hl : Smalls3 L) (hp : Small 1000 p) (hn : L.length < 100) : DK 52 [ptsD L, ptD p] fun d => d = .bool (inP L p) := by
 refine dfn_ok cp52 rfl GHro fun Z0 lo => ?_
 refine goD ?_; intros
 refine ds_loop (fun m E S nk => ∃ i : Nat, i + m = L.length /\ (∀ j, j < i -> sOn L p j = false) /\ E = [(0, ptsD L), (3, .one (.ptr 0 0)), (5, .bool (odds L p i)), (6, .int i)] /\ S = [(0, .cells [.f (.c (.int .i64 p.1)), .f (.c (.int .i64 p.2))])] /\ nk = 1)
  ⟨L.length, _, _, _, [], ?wk, 0, oM, fun j hj => oM, rfl, rfl, rfl⟩ ?_
 case wk => exact wkA
 rintro m E S nk ⟨i, hi, hno, rfl, rfl, rfl⟩
 refine goD ?_; intros
 refine ds_if rfl (fun ht => ?_) (fun ht => ?_)
 ·have ht : i < L.length := by have := of_decide_eq_true ht; omega
  have hnx : nxt L i < L.length := Nat.mod_lt _ oM
  obtain ⟨a, ha⟩ : ∃ q, L[i]? = some q := ⟨_, List.getElem?_eq_getElem ht⟩
  obtain ⟨b, hb⟩ : ∃ q, L[nxt L i]? = some q := ⟨_, List.getElem?_eq_getElem hnx⟩
  have hsa := hl a (List.mem_of_getElem? ha)
  have hsb := hl b (List.mem_of_getElem? hb)
  refine goD ?_; intros
  refine dw_cf rfl rfl (d_side hn ht ha hb) ?_
  rintro _ rfl
  refine goD ?_; intros
  refine dw_cf rfl rfl (d_ron hsa hsb hp) ?_
  rintro _ rfl
  refine goD ?_; intros
  refine ds_if rfl (fun ho => ?_) (fun ho => ?_)
  ·refine goD ?_; intros
   refine ds_ret ⟨_, rfl, rfl, ?_⟩
   rw [inP_true ht (by rw [sOn, at0_of ha, at0_of hb]; exact ho)]
  ·have ho : sOn L p i = false := by rw [sOn, at0_of ha, at0_of hb]; exact ho
   refine goD ?_; intros
   refine dw_cf rfl rfl (d_rpas hsa hsb hp) ?_
   rintro _ rfl
   refine goD ?_; intros
   refine ds_if rfl (fun hq => ?_) (fun hq => ?_)
   ·refine goD ?_; intros
    refine ⟨m - 1, oM, _, _, _, [], ?wk1, i + 1, oM, ?hno, rfl, rfl, rfl⟩
    case hno =>
     intro j hj
     by_cases hji : j = i
     ·rw [hji, ho]
     ·exact hno j oM
    case wk1 =>
     have : (!odds L p i) = odds L p (i + 1) := by rw [odds, sPas, at0_of ha, at0_of hb, hq]; cases odds L p i <;> rfl
     rw [this]
     exact wkA
   ·have : odds L p (i + 1) = odds L p i := by rw [odds, sPas, at0_of ha, at0_of hb, hq]; cases odds L p i <;> rfl
    refine goD ?_; intros
    refine ⟨m - 1, oM, _, _, _, [], ?wk2, i + 1, oM, ?hno2, rfl, rfl, rfl⟩
    case hno2 =>
     intro j hj
     by_cases hji : j = i
     ·rw [hji, ho]
     ·exact hno j oM
    case wk2 =>
     rw [this]
     exact wkA
 ·have ht : i = L.length := by have := of_decide_eq_false ht; omega
  subst ht
  refine goD ?_; intros
  refine ds_ret ⟨_, rfl, rfl, ?_⟩
  rw [inP_end hno]
def texP (k : Int) (p : Pt2) : Bool := decide (k = 3) || (decide (k = 2) && decide (p.2.tmod 2 = 0)) || (decide (k = 1) && decide ((p.1 + p.2).tmod 2 = 0))
theorem d_rtex {k : Nat} {p : Pt2} (hk : k < 4) (hp : Small 1000 p) : DK 51 [.int k, ptD p] fun d => d = .bool (texP k p) := by
 refine dfn_ok cp51 rfl GHro fun Z0 lo => ?_
 have hw : IntKind.i64.wrap (p.1 + p.2) = p.1 + p.2 := by unfold Small at hp; exact dwrap oM oM
 match k, hk with
 | 0, _ =>
  refine goD ?_; intros
  exact ds_ret ⟨_, rfl, rfl, rfl⟩
 | 1, _ =>
  refine goD ?_; intros
  refine ds_ret ⟨_, rfl, rfl, ?_⟩
  exact congrArg DV.bool (by rw [hw]; rfl)
 | 2, _ =>
  by_cases h : p.2.tmod 2 = 0
  ·have hb : (p.2.tmod 2 == 0) = true := by simpa using h
   refine goB ?_; intros
   exact ds_ret ⟨_, rfl, rfl, by rw [texP]; simp [h]⟩
  ·have hb : (p.2.tmod 2 == 0) = false := by simpa using h
   refine goB ?_; intros
   exact ds_ret ⟨_, rfl, rfl, by rw [texP]; simp [h]⟩
 | 3, _ =>
  refine goD ?_; intros
  exact ds_ret ⟨_, rfl, rfl, rfl⟩
 | k + 4, h => omega
def texN (n : Nat) : FuncId := 73 + n
theorem d_tex0 {p : Pt2} : DK 73 [ptD p] fun d => d = .bool (texP 0 p) := by
 refine dfn_ok cp73 rfl GHro fun Z0 lo => ?_
 refine goD ?_; intros
 exact ds_ret ⟨_, rfl, rfl, rfl⟩
theorem d_tex3 {p : Pt2} : DK 76 [ptD p] fun d => d = .bool (texP 3 p) := by
 refine dfn_ok cp76 rfl GHro fun Z0 lo => ?_
 refine goD ?_; intros
 exact ds_ret ⟨_, rfl, rfl, rfl⟩
theorem d_tex2 {p : Pt2} : DK 75 [ptD p] fun d => d = .bool (texP 2 p) := by
 refine dfn_ok cp75 rfl GHro fun Z0 lo => ?_
 refine goD ?_; intros
 refine ds_ret ⟨_, rfl, rfl, ?_⟩
 exact congrArg DV.bool (by rw [texP]; by_cases h : p.2.tmod 2 = 0 <;> simp [h])
theorem d_tex1 {p : Pt2} (hp : Small 1000 p) : DK 74 [ptD p] fun d => d = .bool (texP 1 p) := by
 refine dfn_ok cp74 rfl GHro fun Z0 lo => ?_
 have hw : IntKind.i64.wrap (p.1 + p.2) = p.1 + p.2 := by unfold Small at hp; exact dwrap oM oM
 refine goD ?_; intros
 refine ds_ret ⟨_, rfl, rfl, ?_⟩
 exact congrArg DV.bool (by rw [hw]; rfl)
theorem d_texture {k : Nat} (hk : k < 4) : DK 57 [.int k] fun d => d = fnK (texN k) := by
 refine dfn_ok cp57 rfl GHro fun Z0 lo => ?_
 match k, hk with
 | 0, _ =>
  refine goD ?_; intros
  exact ds_ret ⟨_, rfl, rfl, rfl⟩
 | 1, _ =>
  refine goD ?_; intros
  exact ds_ret ⟨_, rfl, rfl, rfl⟩
 | 2, _ =>
  refine goD ?_; intros
  exact ds_ret ⟨_, rfl, rfl, rfl⟩
 | 3, _ =>
  refine goD ?_; intros
  exact ds_ret ⟨_, rfl, rfl, rfl⟩
 | k + 4, h => omega
structure Ft where
 kind : Int
 tex : Int
 pts : List Pt2
def ftF (f : Ft) : List FD := [.c (.int .i64 f.kind), .c (.int .i64 f.tex), .sl 2 f.pts.length (f.pts.flatMap ptF)]
def ftD (f : Ft) : DV := .agg [.f (.c (.int .i64 f.kind)), .f (.c (.int .i64 f.tex)), .f (.sl 2 f.pts.length (f.pts.flatMap ptF))]
def in60 (p : Pt2) : Bool := decide (0 <= p.1) && decide (p.1 < 60) && (decide (0 <= p.2) && decide (p.2 < 60))
def kindOk (f : Ft) : Bool := if f.kind = 1 then f.pts.length == 1 && f.tex == 0 else if f.kind = 2 then decide (2 <= f.pts.length) && f.tex == 0 else if f.kind = 3 then decide (3 <= f.pts.length) && decide (0 <= f.tex) && decide (f.tex <= 3) else false
def validF (f : Ft) : Bool := decide (1 <= f.pts.length) && decide (f.pts.length <= 12) && f.pts.all in60 && kindOk f
theorem itOr (a b : Bool) : (if a = true then true else b) = (a || b) := by cases a <;> rfl
theorem natcast_beq (n : Nat) : ((n : Int) == 1) = (n == 1) := by
 by_cases h : n = 1
 ·subst h; rfl
 ·have : ¬ (n : Int) = 1 := by omega
  rw [beq_eq_false_iff_ne.2 h, beq_eq_false_iff_ne.2 this]
theorem itAnd (a b : Bool) : (if a = true then b else false) = (a && b) := by cases a <;> rfl
theorem in60_iff {p : Pt2} : in60 p = true ↔ (0 <= p.1 /\ p.1 < 60) /\ 0 <= p.2 /\ p.2 < 60 := by simp [in60]
theorem validF_of {f : Ft} (h1 : 1 <= f.pts.length) (h2 : f.pts.length <= 12) (h3 : ∀ (j : Nat) q, j < f.pts.length -> f.pts[j]? = some q -> in60 q = true) : validF f = kindOk f := by
 rw [validF, decide_eq_true h1, decide_eq_true h2, List.all_eq_true.2]
 ·simp
 ·intro x hx
  obtain ⟨j, hj⟩ := List.getElem?_of_mem hx
  exact h3 j x (List.getElem?_eq_some_iff.1 hj).1 hj
theorem validF_bad {f : Ft} {q : Pt2} {i : Nat} (hq : f.pts[i]? = some q) (h : ¬ in60 q = true) : validF f = false := by
 have : f.pts.all in60 = false := by
  rw [List.all_eq_false]
  exact ⟨q, List.mem_of_getElem? hq, h⟩
 rw [validF, this]
 simp
theorem d_valid {f : Ft} (hn : f.pts.length < 1000) : DK 46 [ftD f] fun d => d = .bool (validF f) := by
 refine dfn_ok cp46 rfl GHro fun Z0 lo => ?_
 refine goD ?_; intros
 refine ds_if rfl (fun ht => ?_) (fun ht => ?_)
 ·refine goD ?_; intros
  refine ds_ret ⟨_, rfl, rfl, ?_⟩
  rw [itOr] at ht; simp only [Bool.or_eq_true, decide_eq_true_eq] at ht
  refine congrArg DV.bool ?_
  rw [validF]
  rcases ht with h|h
  ·rw [decide_eq_false (show ¬ 1 <= f.pts.length by omega)]; rfl
  ·rw [decide_eq_false (show ¬ f.pts.length <= 12 by omega), Bool.and_false]; rfl
 ·rw [itOr] at ht; simp only [Bool.or_eq_false_iff, decide_eq_false_iff_not] at ht
  refine goD ?_; intros
  refine ds_loop (fun m E S nk => ∃ i : Nat, i + m = f.pts.length /\ (∀ (j : Nat) q, j < i -> f.pts[j]? = some q -> in60 q = true) /\ E = [(1, .one (.ptr 0 0)), (3, .int f.pts.length), (16, ptsD f.pts), (17, .int f.pts.length), (18, .int i)] /\ S = [(0, .cells [.f (.c (.int .i64 f.kind)), .f (.c (.int .i64 f.tex)), .f (.sl 2 f.pts.length (f.pts.flatMap ptF))])] /\ nk = 1)
   ⟨f.pts.length, _, _, _, [], ?wk, 0, oM, fun j q hj => oM, rfl, rfl, rfl⟩ ?_
  case wk => exact wkA
  rintro m E S nk ⟨i, hi, hok, rfl, rfl, rfl⟩
  refine goD ?_; intros
  refine ds_if rfl (fun ht2 => ?_) (fun ht2 => ?_)
  ·have ht2 : i < f.pts.length := by have := of_decide_eq_true ht2; omega
   obtain ⟨q, hq⟩ : ∃ q, f.pts[i]? = some q := ⟨_, List.getElem?_eq_getElem ht2⟩
   have e1 := ptF_at hq
   refine goD ?_; intros
   refine ds_if rfl (fun hb => ?_) (fun hb => ?_)
   ·rw [itOr, itOr, itOr] at hb; simp only [Bool.or_eq_true, decide_eq_true_eq] at hb
    have hb : ¬ in60 q = true := by rw [in60_iff]; omega
    refine goD ?_; intros
    exact ds_ret ⟨_, rfl, rfl, by rw [validF_bad hq hb]⟩
   ·rw [itOr, itOr, itOr] at hb; simp only [Bool.or_eq_false_iff, decide_eq_false_iff_not] at hb
    have hb : in60 q = true := by rw [in60_iff]; omega
    refine goD ?_; intros
    refine ⟨m - 1, oM, _, _, _, [], ?wk1, i + 1, oM, ?hno, rfl, rfl, rfl⟩
    case hno =>
     intro j q' hj hq'
     by_cases hji : j = i
     ·subst hji; rw [hq] at hq'; rw [<- Option.some.inj hq']; exact hb
     ·exact hok j q' oM hq'
    case wk1 => exact wkA
  ·have ht2 : i = f.pts.length := by have := of_decide_eq_false ht2; omega
   subst ht2
   have hv := validF_of oM oM hok
   rw [hv]
   refine goD ?_; intros
   refine ds_if rfl (fun h1 => ?_) (fun h1 => ?_)
   ·have h1 : f.kind = 1 := by simpa using h1
    refine goD ?_; intros
    refine ds_ret ⟨_, rfl, rfl, congrArg DV.bool ?_⟩
    rw [itAnd, kindOk, if_pos h1]
    congr 1
    exact natcast_beq _
   ·have h1 : ¬ f.kind = 1 := by simpa using h1
    refine goD ?_; intros
    refine ds_if rfl (fun h2 => ?_) (fun h2 => ?_)
    ·have h2 : f.kind = 2 := by simpa using h2
     refine goD ?_; intros
     refine ds_ret ⟨_, rfl, rfl, congrArg DV.bool ?_⟩
     rw [itAnd, kindOk, if_neg h1, if_pos h2]
     congr 1
     exact decide_eq_decide.2 oM
    ·have h2 : ¬ f.kind = 2 := by simpa using h2
     refine goD ?_; intros
     refine ds_if rfl (fun h3 => ?_) (fun h3 => ?_)
     ·have h3 : f.kind = 3 := by simpa using h3
      refine goD ?_; intros
      refine ds_ret ⟨_, rfl, rfl, congrArg DV.bool ?_⟩
      rw [itAnd, itAnd, kindOk, if_neg h1, if_neg h2, if_pos h3]
      congr 2
      exact decide_eq_decide.2 oM
     ·have h3 : ¬ f.kind = 3 := by simpa using h3
      refine goD ?_; intros
      refine ds_ret ⟨_, rfl, rfl, congrArg DV.bool ?_⟩
      rw [kindOk, if_neg h1, if_neg h2, if_neg h3]
theorem kindOk_pos {f : Ft} (h : f.pts.length = 0) : kindOk f = false := by
 rw [kindOk, h]
 split
 ·rfl
 ·split
  ·rfl
  ·split <;> rfl
theorem d_rvalid {f : Ft} (hn : f.pts.length < 1000) : DK 42 [ftD f] fun d => d = .bool (validF f) := by
 refine dfn_ok cp42 rfl GHro fun Z0 lo => ?_
 refine goD ?_; intros
 refine ds_loop (fun m E S nk => ∃ i : Nat, i + m = f.pts.length /\ (∀ (j : Nat) q, j < i -> f.pts[j]? = some q -> in60 q = true) /\ E = [(1, .one (.ptr 0 0)), (3, .int f.pts.length), (4, .int i)] /\ S = [(0, .cells [.f (.c (.int .i64 f.kind)), .f (.c (.int .i64 f.tex)), .f (.sl 2 f.pts.length (f.pts.flatMap ptF))])] /\ nk = 1)
   ⟨f.pts.length, _, _, _, [], ?wk, 0, oM, fun j q hj => oM, rfl, rfl, rfl⟩ ?_
 case wk => exact wkA
 rintro m E S nk ⟨i, hi, hok, rfl, rfl, rfl⟩
 refine goD ?_; intros
 refine ds_if rfl (fun ht2 => ?_) (fun ht2 => ?_)
 ·have ht2 : i < f.pts.length := by have := of_decide_eq_true ht2; omega
  obtain ⟨q, hq⟩ : ∃ q, f.pts[i]? = some q := ⟨_, List.getElem?_eq_getElem ht2⟩
  have e1 := ptF_at hq
  refine goD ?_; intros
  refine ds_if rfl (fun hb => ?_) (fun hb => ?_)
  ·rw [itOr, itOr, itOr] at hb; simp only [Bool.or_eq_true, decide_eq_true_eq] at hb
   have hb : ¬ in60 q = true := by rw [in60_iff]; omega
   refine goD ?_; intros
   exact ds_ret ⟨_, rfl, rfl, by rw [validF_bad hq hb]⟩
  ·rw [itOr, itOr, itOr] at hb; simp only [Bool.or_eq_false_iff, decide_eq_false_iff_not] at hb
   have hb : in60 q = true := by rw [in60_iff]; omega
   refine goD ?_; intros
   refine ⟨m - 1, oM, _, _, _, [], ?wk1, i + 1, oM, ?hno, rfl, rfl, rfl⟩
   case hno =>
    intro j q' hj hq'
    by_cases hji : j = i
    ·subst hji; rw [hq] at hq'; rw [<- Option.some.inj hq']; exact hb
    ·exact hok j q' oM hq'
   case wk1 => exact wkA
 ·have ht2 : i = f.pts.length := by have := of_decide_eq_false ht2; omega
  subst ht2
  refine goD ?_; intros
  refine ds_if rfl (fun hg => ?_) (fun hg => ?_)
  ·have hg := of_decide_eq_true hg
   refine goD ?_; intros
   refine ds_ret ⟨_, rfl, rfl, congrArg DV.bool ?_⟩
   rw [validF, decide_eq_false (show ¬ f.pts.length <= 12 by omega), Bool.and_false]; rfl
  ·have hg := of_decide_eq_false hg
   have hv : validF f = kindOk f := by
    by_cases h0 : f.pts.length = 0
    ·rw [kindOk_pos h0, validF, h0]; rfl
    ·exact validF_of oM oM hok
   rw [hv]
   refine goD ?_; intros
   refine ds_if rfl (fun h1 => ?_) (fun h1 => ?_)
   ·have h1 : f.kind = 1 := by simpa using h1
    refine goD ?_; intros
    refine ds_ret ⟨_, rfl, rfl, congrArg DV.bool ?_⟩
    rw [itAnd, kindOk, if_pos h1]
    congr 1
    exact natcast_beq _
   ·have h1 : ¬ f.kind = 1 := by simpa using h1
    refine goD ?_; intros
    refine ds_if rfl (fun h2 => ?_) (fun h2 => ?_)
    ·have h2 : f.kind = 2 := by simpa using h2
     refine goD ?_; intros
     refine ds_ret ⟨_, rfl, rfl, congrArg DV.bool ?_⟩
     rw [itAnd, kindOk, if_neg h1, if_pos h2]
     congr 1
     exact decide_eq_decide.2 oM
    ·have h2 : ¬ f.kind = 2 := by simpa using h2
     refine goD ?_; intros
     refine ds_if rfl (fun h3 => ?_) (fun h3 => ?_)
     ·have h3 : f.kind = 3 := by simpa using h3
      refine goD ?_; intros
      refine ds_ret ⟨_, rfl, rfl, congrArg DV.bool ?_⟩
      rw [itAnd, itAnd, kindOk, if_neg h1, if_neg h2, if_pos h3]
      congr 2
      exact decide_eq_decide.2 oM
     ·have h3 : ¬ f.kind = 3 := by simpa using h3
      refine goD ?_; intros
      refine ds_ret ⟨_, rfl, rfl, congrArg DV.bool ?_⟩
      rw [kindOk, if_neg h1, if_neg h2, if_neg h3]
def InBox (lo hi p : Pt2) : Prop := (lo.1 <= p.1 /\ p.1 <= hi.1) /\ lo.2 <= p.2 /\ p.2 <= hi.2
theorem onP_box {a b p lo hi : Pt2} (h : onP a b p = true) (ha : InBox lo hi a) (hb : InBox lo hi b) : InBox lo hi p := by
 simp only [onP, Bool.and_eq_true, decide_eq_true_eq] at h
 unfold InBox at *
 omega
theorem cross_id' (u v h t : Int) : u * (h + t) - t * (u - v) = u * h + t * v := by
 rw [Int.mul_add, Int.mul_sub, Int.mul_comm t u]
 omega
theorem cross_id (a b p : Pt2) : (p.1 - a.1) * (b.2 - a.2) - (p.2 - a.2) * (b.1 - a.1) = (p.1 - a.1) * (b.2 - p.2) + (p.2 - a.2) * (p.1 - b.1) := by
 rw [<- cross_id', show b.2 - p.2 + (p.2 - a.2) = b.2 - a.2 by omega, show p.1 - a.1 - (p.1 - b.1) = b.1 - a.1 by omega]
theorem pas_left {a b p : Pt2} (ha : p.1 < a.1) (hb : p.1 < b.1) : pasP a b p = xor (decide (a.2 <= p.2)) (decide (b.2 <= p.2)) := by
 have e := cross_id a b p
 unfold pasP
 by_cases h1 : a.2 <= p.2
 ·by_cases h2 : b.2 <= p.2
  ·simp [h1, h2]
  ·have m1 : (p.1 - a.1) * (b.2 - p.2) < 0 := Int.mul_neg_of_neg_of_pos oM oM
   have m2 : (p.2 - a.2) * (p.1 - b.1) <= 0 := Int.mul_nonpos_of_nonneg_of_nonpos oM oM
   rw [decide_eq_true h1, decide_eq_false h2, if_neg (by decide), if_pos (by omega), decide_eq_true (by omega)]
   rfl
 ·by_cases h2 : b.2 <= p.2
  ·have m1 : 0 <= (p.1 - a.1) * (b.2 - p.2) := Int.mul_nonneg_of_nonpos_of_nonpos oM oM
   have m2 : 0 < (p.2 - a.2) * (p.1 - b.1) := Int.mul_pos_of_neg_of_neg oM oM
   rw [decide_eq_false h1, decide_eq_true h2, if_neg (by decide), if_neg (by omega), decide_eq_true (by omega)]
   rfl
  ·simp [h1, h2]
theorem pas_right {a b p : Pt2} (ha : a.1 < p.1) (hb : b.1 < p.1) : pasP a b p = false := by
 have e := cross_id a b p
 unfold pasP
 by_cases h1 : a.2 <= p.2
 ·by_cases h2 : b.2 <= p.2
  ·simp [h1, h2]
  ·have m1 : 0 < (p.1 - a.1) * (b.2 - p.2) := Int.mul_pos oM oM
   have m2 : 0 <= (p.2 - a.2) * (p.1 - b.1) := Int.mul_nonneg oM oM
   rw [decide_eq_true h1, decide_eq_false h2, if_neg (by decide), if_pos (by omega), decide_eq_false (by omega)]
 ·by_cases h2 : b.2 <= p.2
  ·have m1 : (p.1 - a.1) * (b.2 - p.2) <= 0 := Int.mul_nonpos_of_nonneg_of_nonpos oM oM
   have m2 : (p.2 - a.2) * (p.1 - b.1) < 0 := Int.mul_neg_of_neg_of_pos oM oM
   rw [decide_eq_false h1, decide_eq_true h2, if_neg (by decide), if_neg (by omega), decide_eq_false (by omega)]
  ·simp [h1, h2]
theorem pas_flat {a b p : Pt2} (h : decide (a.2 <= p.2) = decide (b.2 <= p.2)) : pasP a b p = false := by rw [pasP, if_pos h]
theorem odds_none {L : List Pt2} {p : Pt2} : ∀ {n : Nat}, (∀ i, i < n -> sPas L p i = false) -> odds L p n = false
 | 0, _ => rfl
 | n + 1, h => by rw [odds, odds_none (n := n) (fun i hi => h i (by omega)), h n (by omega)]; rfl
theorem odds_left {L : List Pt2} {p : Pt2} (h : ∀ i, i < L.length -> p.1 < (at0 L i).1) : ∀ {n : Nat}, n < L.length -> odds L p n = xor (decide ((at0 L 0).2 <= p.2)) (decide ((at0 L n).2 <= p.2))
 | 0, _ => by rw [odds]; simp
 | n + 1, hn => by
  have e : nxt L n = n + 1 := by rw [nxt, Nat.mod_eq_of_lt (by omega)]
  rw [odds, odds_left h (n := n) (by omega), sPas, e, pas_left (h n (by omega)) (h (n + 1) (by omega))]
  cases decide ((at0 L 0).2 <= p.2) <;> cases decide ((at0 L n).2 <= p.2) <;> cases decide ((at0 L (n + 1)).2 <= p.2) <;> rfl
theorem at0_mem {L : List Pt2} {i : Nat} (hi : i < L.length) : at0 L i ∈ L := by
 rw [at0, List.getElem?_eq_getElem hi]
 exact List.getElem_mem hi
theorem nxt_lt {L : List Pt2} {i : Nat} (hi : i < L.length) : nxt L i < L.length := Nat.mod_lt _ oM
theorem inP_box {L : List Pt2} {lo hi p : Pt2} (hL : ∀ q ∈ L, InBox lo hi q) (h : inP L p = true) : InBox lo hi p := by
 have hat : ∀ i, i < L.length -> InBox lo hi (at0 L i) := fun i hi => hL _ (at0_mem hi)
 rw [inP, Bool.or_eq_true] at h
 rcases h with h|h
 ·obtain ⟨i, hi, h⟩ := List.any_eq_true.1 h
  have hi := List.mem_range.1 hi
  exact onP_box h (hat i hi) (hat _ (nxt_lt hi))
 ·have h0 : 0 < L.length := by
   cases hl : L.length with
   | zero => rw [hl] at h; cases h
   | succ => omega
  have no : (∀ i, i < L.length -> sPas L p i = false) -> False := fun hno => by
   rw [odds_none hno] at h
   cases h
  have h1 : lo.2 <= p.2 := by
   false_or_by_contra
   refine no fun i hi => pas_flat ?_
   have g1 := hat i hi
   have g2 := hat _ (nxt_lt hi)
   unfold InBox at g1 g2
   rw [decide_eq_false (by omega), decide_eq_false (by omega)]
  have h2 : p.2 <= hi.2 := by
   false_or_by_contra
   refine no fun i hi => pas_flat ?_
   have g1 := hat i hi
   have g2 := hat _ (nxt_lt hi)
   unfold InBox at g1 g2
   rw [decide_eq_true (by omega), decide_eq_true (by omega)]
  have h3 : p.1 <= hi.1 := by
   false_or_by_contra
   refine no fun i hi => pas_right ?_ ?_
   ·have g1 := hat i hi
    unfold InBox at g1
    omega
   ·have g1 := hat _ (nxt_lt hi)
    unfold InBox at g1
    omega
  have h4 : lo.1 <= p.1 := by
   false_or_by_contra
   have hl : ∀ i, i < L.length -> p.1 < (at0 L i).1 := fun i hi => by
    have g1 := hat i hi
    unfold InBox at g1
    omega
   obtain ⟨n, hn⟩ : ∃ n, L.length = n + 1 := ⟨L.length - 1, oM⟩
   have e : nxt L n = 0 := by rw [nxt, <- hn, Nat.mod_self]
   rw [hn, odds, odds_left hl (n := n) (by omega), sPas, e, pas_left (hl n (by omega)) (hl 0 h0)] at h
   cases hx : decide ((at0 L 0).2 <= p.2) <;> cases hy : decide ((at0 L n).2 <= p.2) <;> rw [hx, hy] at h <;> cases h
  exact ⟨⟨h4, h3⟩, h1, h2⟩
def alongL (L : List Pt2) : List Pt2 := (List.range (L.length - 1)).flatMap fun i => lineP (at0 L i) (at0 L (nxt L i))
def aroundL (L : List Pt2) : List Pt2 := (List.range L.length).flatMap fun i => lineP (at0 L i) (at0 L (nxt L i))
def gridL : List Pt2 := (List.range 60).flatMap fun (y : Nat) => (List.range 60).map fun (x : Nat) => ((x : Int), (y : Int))
theorem gridL_mem {p : Pt2} : p ∈ gridL ↔ in60 p = true := by
 obtain ⟨x, y⟩ := p
 rw [in60_iff]
 simp only [gridL, List.mem_flatMap, List.mem_map, List.mem_range, Prod.mk.injEq]
 constructor
 ·rintro ⟨b, hb, a, ha, rfl, rfl⟩
  omega
 ·rintro ⟨⟨h1, h2⟩, h3, h4⟩
  exact ⟨y.toNat, oM, x.toNat, oM, oM, oM⟩
def fillL (f : Ft) : List Pt2 := gridL.filter fun p => texP f.tex p && inP f.pts p
def pointsF (f : Ft) : List Pt2 := if f.kind = 1 then f.pts else if f.kind = 2 then sortedP (alongL f.pts) else sortedP (aroundL f.pts ++ fillL f)
theorem aroundL_mem {L : List Pt2} {p : Pt2} : p ∈ aroundL L ↔ ∃ (i : Nat) (a b : Pt2), L[i]? = some a /\ L[nxt L i]? = some b /\ p ∈ lineP a b := by
 simp only [aroundL, List.mem_flatMap, List.mem_range]
 constructor
 ·rintro ⟨i, hi, hp⟩
  exact ⟨i, _, _, List.getElem?_eq_getElem hi, List.getElem?_eq_getElem (nxt_lt hi), by simpa [at0, List.getElem?_eq_getElem hi, List.getElem?_eq_getElem (nxt_lt hi)] using hp⟩
 ·rintro ⟨i, a, b, ha, hb, hp⟩
  exact ⟨i, (List.getElem?_eq_some_iff.1 ha).1, by rw [at0_of ha, at0_of hb]; exact hp⟩
theorem alongL_mem {L : List Pt2} {p : Pt2} : p ∈ alongL L ↔ ∃ (i : Nat) (a b : Pt2), i < L.length - 1 /\ L[i]? = some a /\ L[i + 1]? = some b /\ p ∈ lineP a b := by
 simp only [alongL, List.mem_flatMap, List.mem_range]
 constructor
 ·rintro ⟨i, hi, hp⟩
  have e : nxt L i = i + 1 := by rw [nxt, Nat.mod_eq_of_lt (by omega)]
  rw [e] at hp
  exact ⟨i, _, _, hi, List.getElem?_eq_getElem (by omega), List.getElem?_eq_getElem (by omega), by simpa [at0, List.getElem?_eq_getElem (show i < L.length by omega), List.getElem?_eq_getElem (show i + 1 < L.length by omega)] using hp⟩
 ·rintro ⟨i, a, b, hi, ha, hb, hp⟩
  have e : nxt L i = i + 1 := by rw [nxt, Nat.mod_eq_of_lt (by omega)]
  exact ⟨i, hi, by rw [e, at0_of ha, at0_of hb]; exact hp⟩
theorem sorted_eq {l m : List Pt2} (h : ∀ p, p ∈ l ↔ p ∈ m) : sortedP l = sortedP m := ByRows.ext (sortedP_rows l) (sortedP_rows m) fun p => by rw [sortedP_mem, sortedP_mem, h]
theorem dw_wk {p : Par} {base : Nat} {Q : DEnv -> Bx -> Nat -> Prop} {r : List SOper} {A : List Nat} {E E0 : DEnv} {S S0 : Bx} {nk n0 : Nat} (ρ : List (Nat × Nat)) (hw : Wk p ρ n0 E0 S0 E S) (h : DPW p base 0 Q r [] A E0 S0 n0) : DPW p base 0 Q r [] A E S nk := .mk fun Z β H F c hS hE hC hA => by
 obtain ⟨β0, h1, h2⟩ := wk_ok hS hE hw
 refine h.run Z β0 H F c h1 h2 (fun x hx => ?_) ⟨hA.1, fun j hj => oM⟩
 obtain ⟨y, hy, _⟩ := hC x hx
 cases hy
theorem valid_pts {f : Ft} (h : validF f = true) : (1 <= f.pts.length /\ f.pts.length <= 12) /\ (∀ p ∈ f.pts, in60 p = true) /\ kindOk f = true := by
 simp only [validF, Bool.and_eq_true, decide_eq_true_eq, List.all_eq_true] at h
 exact ⟨h.1.1, h.1.2, h.2⟩
theorem in60_small {p : Pt2} (h : in60 p = true) : Small 1000 p := by
 rw [in60_iff] at h
 unfold Small
 omega
theorem lineP_fst (a b : Pt2) : a ∈ lineP a b := by
 have h := lineP_at a b (k := 0) (by rw [far_abs]; omega)
 rw [lineAt_zero] at h
 exact List.mem_of_getElem? h
theorem d_texK {k : Nat} {p : Pt2} (hk : k < 4) (hp : Small 1000 p) : DK (texN k) [ptD p] fun d => d = .bool (texP k p) := by
 match k, hk with
 | 0, _ => exact d_tex0
 | 1, _ => exact d_tex1 hp
 | 2, _ => exact d_tex2
 | 3, _ => exact d_tex3
 | k + 4, h => omega
theorem isFn_tex {k : Nat} (hk : k < 4) : isFn Tryz.prog (texN k) = true := by
 match k, hk with
 | 0, _ => exact (show isFn Tryz.prog 73 = true by kernel_rfl)
 | 1, _ => exact (show isFn Tryz.prog 74 = true by kernel_rfl)
 | 2, _ => exact (show isFn Tryz.prog 75 = true by kernel_rfl)
 | 3, _ => exact (show isFn Tryz.prog 76 = true by kernel_rfl)
 | k + 4, h => omega
theorem d_textureI {t : Int} {k : Nat} (ht : t = k) (hk : k < 4) : DK 57 [.int t] fun d => d = fnK (texN k) := by rw [ht]; exact d_texture hk
def arS (f : Ft) (l : List Pt2) (lo hi : Pt2) : Bx := [(0, .cells [.f (.c (.int .i64 f.kind)), .f (.c (.int .i64 f.tex)), .f (.sl 2 f.pts.length (f.pts.flatMap ptF))]), (1, mapB l), (2, .cells [.f (.c (.int .i64 lo.1)), .f (.c (.int .i64 lo.2))]), (3, .cells [.f (.c (.int .i64 hi.1)), .f (.c (.int .i64 hi.2))])]
structure Fill (f : Ft) (l0 : List Pt2) (lo hi : Pt2) (x y : Int) (l : List Pt2) : Prop where
 nd : l.Nodup
 le : (l.length : Int) <= l0.length + 60 * (y - lo.2) + (x - lo.1)
 mem : ∀ p, p ∈ l ↔ p ∈ l0 \/ (InBox lo hi p /\ (p.2 < y \/ (p.2 = y /\ p.1 < x)) /\ (texP f.tex p && inP f.pts p) = true)
theorem Fill.start {f : Ft} {l0 : List Pt2} {lo hi : Pt2} (h : l0.Nodup) : Fill f l0 lo hi lo.1 lo.2 l0 := ⟨h, oM, fun p => ⟨.inl, fun h => h.elim id fun h => by
 obtain ⟨h1, h2, _⟩ := h
 unfold InBox at h1
 omega⟩⟩
theorem Fill.skip {f : Ft} {l0 l : List Pt2} {lo hi : Pt2} {x y : Int} (h : Fill f l0 lo hi x y l) (hb : (texP f.tex (x, y) && inP f.pts (x, y)) = false) : Fill f l0 lo hi (x + 1) y l := ⟨h.nd, by have := h.le; omega, fun p => by
 rw [h.mem]
 constructor
 ·rintro (h1|⟨h1, h2, h3⟩)
  ·exact .inl h1
  ·exact .inr ⟨h1, oM, h3⟩
 ·rintro (h1|⟨h1, h2, h3⟩)
  ·exact .inl h1
  ·refine .inr ⟨h1, ?_, h3⟩
   by_cases he : p = (x, y)
   ·rw [he, hb] at h3; cases h3
   ·have : ¬ (p.1 = x /\ p.2 = y) := fun h => he (Prod.ext h.1 h.2)
    omega⟩
theorem Fill.put {f : Ft} {l0 l : List Pt2} {lo hi : Pt2} {x y : Int} (h : Fill f l0 lo hi x y l) (hx : InBox lo hi (x, y)) (hb : (texP f.tex (x, y) && inP f.pts (x, y)) = true) : Fill f l0 lo hi (x + 1) y (putP l (x, y)) := ⟨putP_nodup h.nd, by have := h.le; have := (putP_le l (x, y)).2; omega, fun p => by
 rw [putP_mem, h.mem]
 constructor
 ·rintro ((h1|⟨h1, h2, h3⟩)|rfl)
  ·exact .inl h1
  ·exact .inr ⟨h1, oM, h3⟩
  ·exact .inr ⟨hx, .inr ⟨rfl, show x < x + 1 by omega⟩, hb⟩
 ·rintro (h1|⟨h1, h2, h3⟩)
  ·exact .inl (.inl h1)
  ·by_cases he : p = (x, y)
   ·exact .inr he
   ·refine .inl (.inr ⟨h1, ?_, h3⟩)
    have : ¬ (p.1 = x /\ p.2 = y) := fun h => he (Prod.ext h.1 h.2)
    omega⟩
theorem Fill.row {f : Ft} {l0 l : List Pt2} {lo hi : Pt2} {y : Int} (h : Fill f l0 lo hi (hi.1 + 1) y l) (hw : hi.1 + 1 - lo.1 <= 60) : Fill f l0 lo hi lo.1 (y + 1) l := ⟨h.nd, by have := h.le; omega, fun p => by
 rw [h.mem]
 constructor
 ·rintro (h1|⟨h1, h2, h3⟩)
  ·exact .inl h1
  ·exact .inr ⟨h1, oM, h3⟩
 ·rintro (h1|⟨h1, h2, h3⟩)
  ·exact .inl h1
  ·refine .inr ⟨h1, ?_, h3⟩
   unfold InBox at h1
   omega⟩
set_option maxHeartbeats 4000000 in
theorem d_points1 {f : Ft} (hv : validF f = true) (h1 : f.kind = 1) : DK 47 [ftD f] fun d => d = ptsD (pointsF f) := by
 obtain ⟨⟨hn1, hn2⟩, hin, hk⟩ := valid_pts hv
 have hsm : Smalls3 f.pts := fun p hp => in60_small (hin p hp)
 obtain ⟨a, ha⟩ : ∃ q, f.pts[0]? = some q := ⟨_, List.getElem?_eq_getElem oM⟩
 have e0 := ptF_at ha
 refine dfn_ok cp47 rfl GHro fun Z0 lo => ?_
 refine goD ?_; intros
 refine dw_cf rfl rfl (d_valid oM) ?_
 rintro _ rfl
 rw [hv]
 refine goD ?_; intros
 refine ds_if rfl (fun ht => by cases ht) (fun _ => ?_)
 have b1 : (f.kind == 1) = true := by simpa using h1
 refine goB ?_; intros
 refine ds_if rfl (fun _ => ?_) (fun ht => by cases ht)
 refine goB ?_; intros
 refine ds_keep (E0 := [(2, .one (.own 1 0 1 2))]) (S0 := [(1, .data (ptF a))]) (SubA.cons rfl (SubA.nil _)) (SubA.cons rfl (SubA.nil _)) ?_
 refine ds_frz 1 rfl okZ okZ ?_
 refine ds_ret ⟨_, rfl, rfl, ?_⟩
 rw [pointsF, if_pos h1]
 have hl : f.pts.length = 1 := by
  rw [kindOk, if_pos h1] at hk
  simp at hk
  exact hk.1
 obtain ⟨x, hx⟩ := List.length_eq_one_iff.1 hl
 rw [hx] at ha ⊢
 obtain rfl := Option.some.inj ha
 rfl
set_option maxHeartbeats 4000000 in
theorem d_points2 {f : Ft} (hv : validF f = true) (h1 : ¬ f.kind = 1) (h2 : f.kind = 2) : DK 47 [ftD f] fun d => d = ptsD (pointsF f) := by
 obtain ⟨⟨hn1, hn2⟩, hin, hk⟩ := valid_pts hv
 have hsm : Smalls3 f.pts := fun p hp => in60_small (hin p hp)
 obtain ⟨a, ha⟩ : ∃ q, f.pts[0]? = some q := ⟨_, List.getElem?_eq_getElem oM⟩
 have e0 := ptF_at ha
 refine dfn_ok cp47 rfl GHro fun Z0 lo => ?_
 refine goD ?_; intros
 refine dw_cf rfl rfl (d_valid oM) ?_
 rintro _ rfl
 rw [hv]
 refine goD ?_; intros
 refine ds_if rfl (fun ht => by cases ht) (fun _ => ?_)
 have b1 : (f.kind == 1) = false := by simpa using h1
 have b2 : (f.kind == 2) = true := by simpa using h2
 refine goB ?_; intros
 refine ds_if rfl (fun ht => by cases ht) (fun _ => ?_)
 refine goB ?_; intros
 refine ds_if rfl (fun _ => ?_) (fun ht => by cases ht)
 refine goB ?_; intros
 refine dw_cfr rfl rfl (do_along hsm oM) ?_
 rintro _ _ _ ⟨l, hA, rfl, rfl, rfl⟩
 refine dw_wk (E0 := [(28, .one (.om 0))]) (S0 := [(0, mapB l)]) (n0 := 1) [(0, 1)] ?hw ?_
 case hw => exact wkA
 have hl2 : 2 <= f.pts.length := by
  rw [kindOk, if_neg h1, if_pos h2] at hk
  simp at hk
  exact hk.1
 have hl0 : 0 < l.length := by
  obtain ⟨b, hb⟩ : ∃ q, f.pts[1]? = some q := ⟨_, List.getElem?_eq_getElem oM⟩
  exact List.length_pos_of_mem ((hA.mem _).2 ⟨0, a, b, oM, ha, hb, lineP_fst a b⟩)
 have := hA.le
 refine dw_cx rfl rfl rfl (x_sorted hA.nd hl0 oM _ _ _ _ _) ?_
 rintro _ S' _ ⟨rfl, hS, rfl⟩
 refine dw_keep (SubA.refl _) hS ?_
 refine goB ?_; intros
 refine ds_keep (SubA.cons (k := 2) rfl (SubA.nil _)) (SubA.cons (k := 6) rfl (SubA.nil _)) ?_
 have hfl := ptF_len (sortedP l)
 refine ds_frz 6 rfl okZ okZ ?_
 refine ds_ret ⟨_, rfl, rfl, ?_⟩
 have he : sortedP l = pointsF f := by
  rw [pointsF, if_neg h1, if_pos h2]
  exact sorted_eq fun p => by rw [hA.mem, alongL_mem]
 rw [he]
 rfl
set_option maxHeartbeats 4000000 in
theorem d_points3 {f : Ft} (hv : validF f = true) (h1 : ¬ f.kind = 1) (h2 : ¬ f.kind = 2) : DK 47 [ftD f] fun d => d = ptsD (pointsF f) := by
 obtain ⟨⟨hn1, hn2⟩, hin, hk⟩ := valid_pts hv
 have hsm : Smalls3 f.pts := fun p hp => in60_small (hin p hp)
 obtain ⟨a, ha⟩ : ∃ q, f.pts[0]? = some q := ⟨_, List.getElem?_eq_getElem oM⟩
 have e0 := ptF_at ha
 refine dfn_ok cp47 rfl GHro fun Z0 lo => ?_
 refine goD ?_; intros
 refine dw_cf rfl rfl (d_valid oM) ?_
 rintro _ rfl
 rw [hv]
 refine goD ?_; intros
 refine ds_if rfl (fun ht => by cases ht) (fun _ => ?_)
 have b1 : (f.kind == 1) = false := by simpa using h1
 have b2 : (f.kind == 2) = false := by simpa using h2
 refine goB ?_; intros
 refine ds_if rfl (fun ht => by cases ht) (fun _ => ?_)
 refine goB ?_; intros
 refine ds_if rfl (fun ht => by cases ht) (fun _ => ?_)
 refine goB ?_; intros
 refine dw_cfr rfl rfl (do_around hsm oM oM) ?_
 rintro _ _ _ ⟨l, hA, rfl, rfl, rfl⟩
 refine goB ?_; intros
 refine ds_loop (fun m E S nk => ∃ (i : Nat) (lo hi : Pt2), i + m = f.pts.length /\ in60 lo = true /\ in60 hi = true /\ (∀ (j : Nat) q, j < i -> f.pts[j]? = some q -> InBox lo hi q) /\ E = [(1, .one (.ptr 0 0)), (3, .one (.om 1)), (4, .one (.ptr 2 0)), (5, .one (.ptr 3 0)), (42, ptsD f.pts), (43, .int f.pts.length), (44, .int i)] /\ S = arS f l lo hi /\ nk = 4)
  ⟨f.pts.length, _, _, _, [], ?wk, 0, a, a, oM, hin a (List.mem_of_getElem? ha), hin a (List.mem_of_getElem? ha), fun j q hj => oM, rfl, rfl, rfl⟩ ?_
 case wk => exact wkA
 rintro m E S nk ⟨i, lo, hi, him, hlo, hhi, hbx, rfl, rfl, rfl⟩
 refine goD ?_; intros
 refine ds_if rfl (fun ht2 => ?_) (fun ht2 => ?_)
 ·have ht2 : i < f.pts.length := by have := of_decide_eq_true ht2; omega
  obtain ⟨q, hq⟩ : ∃ q, f.pts[i]? = some q := ⟨_, List.getElem?_eq_getElem ht2⟩
  have e1 := ptF_at hq
  have hq60 := hin q (List.mem_of_getElem? hq)
  refine goD ?_; intros
  refine ⟨m - 1, oM, _, _, _, [], ?wk1, i + 1, (min lo.1 q.1, min lo.2 q.2), (max hi.1 q.1, max hi.2 q.2), oM, ?g1, ?g2, ?g3, rfl, rfl, rfl⟩
  case g1 => rw [in60_iff] at *; simp only; omega
  case g2 => rw [in60_iff] at *; simp only; omega
  case g3 =>
   intro j q' hj hq'
   by_cases hji : j = i
   ·subst hji
    rw [hq] at hq'
    obtain rfl := Option.some.inj hq'
    unfold InBox
    simp only
    omega
   ·have := hbx j q' oM hq'
    unfold InBox at *
    simp only
    omega
  case wk1 => exact wkA
 ·have ht2 : i = f.pts.length := by have := of_decide_eq_false ht2; omega
  subst ht2
  obtain ⟨k, hk4, hft⟩ : ∃ k : Nat, k < 4 /\ f.tex = k := by
   rw [kindOk, if_neg h1, if_neg h2] at hk
   by_cases h3 : f.kind = 3
   ·rw [if_pos h3] at hk
    simp at hk
    exact ⟨f.tex.toNat, oM, oM⟩
   ·rw [if_neg h3] at hk
    cases hk
  have hab := hbx 0 a oM ha
  rw [in60_iff] at hlo hhi
  have hle0 := hA.le
  have hfs := Fill.start (f := f) (l0 := l) (lo := lo) (hi := hi) hA.nd
  refine goD ?_; intros
  refine dw_cf rfl rfl (d_textureI hft hk4) ?_
  rintro _ rfl
  refine goD ?_; intros
  refine ds_loop (fun m E S nk => ∃ (y : Int) (l' : List Pt2), lo.2 <= y /\ y <= hi.2 + 1 /\ m = (hi.2 + 1 - y).toNat /\ Fill f l lo hi lo.1 y l' /\ E = [(1, .one (.ptr 0 0)), (3, .one (.om 1)), (4, .one (.ptr 2 0)), (5, .one (.ptr 3 0)), (8, fnK (texN k)), (9, .int y)] /\ S = arS f l' lo hi /\ nk = 4)
   ⟨_, _, _, _, [], ?wk2, lo.2, l, oM, by unfold InBox at hab; omega, rfl, hfs, rfl, rfl, rfl⟩ ?_
  case wk2 => exact wkA
  rintro m E S nk ⟨y, l1, hy1, hy2, rfl, hF1, rfl, rfl, rfl⟩
  refine goD ?_; intros
  refine ds_if rfl (fun hy3 => ?_) (fun hy3 => ?_)
  ·have hy3 := of_decide_eq_true hy3
   refine goD ?_; intros
   refine ds_loop (fun m E S nk => ∃ (x : Int) (l' : List Pt2), lo.1 <= x /\ x <= hi.1 + 1 /\ m = (hi.1 + 1 - x).toNat /\ Fill f l lo hi x y l' /\ E = [(1, .one (.ptr 0 0)), (3, .one (.om 1)), (4, .one (.ptr 2 0)), (5, .one (.ptr 3 0)), (8, fnK (texN k)), (9, .int y), (10, .int x)] /\ S = arS f l' lo hi /\ nk = 4)
    ⟨_, _, _, _, [], ?wk3, lo.1, l1, oM, by unfold InBox at hab; omega, rfl, hF1, rfl, rfl, rfl⟩ ?_
   case wk3 => exact wkA
   rintro m E S nk ⟨x, l2, hx1, hx2, rfl, hF2, rfl, rfl, rfl⟩
   refine goD ?_; intros
   refine ds_if rfl (fun hx3 => ?_) (fun hx3 => ?_)
   ·have hx3 := of_decide_eq_true hx3
    have hxs : Small 1000 (x, y) := by unfold Small; simp only; omega
    have hib : InBox lo hi (x, y) := by unfold InBox; simp only; omega
    refine goD ?_; intros
    refine dw_cv0 rfl (isFn_tex hk4) rfl rfl (d_texK (p := (x, y)) hk4 hxs) ?_
    rintro _ rfl
    cases hb : texP f.tex (x, y) with
    | false =>
     rw [hft] at hb
     rw [hb]
     refine goD ?_; intros
     refine ds_if rfl (fun ht => by cases ht) (fun _ => ?_)
     refine goD ?_; intros
     refine ⟨(hi.1 + 1 - (x + 1)).toNat, by omega, _, _, _, [], ?wk4, x + 1, l2, by omega, by omega, rfl, hF2.skip (by rw [hft, hb]; rfl), rfl, rfl, rfl⟩
     case wk4 => exact wkA
    | true =>
     rw [hft] at hb
     rw [hb]
     refine goD ?_; intros
     refine dw_cf rfl rfl (d_inside (p := (x, y)) hsm hxs oM) ?_
     rintro _ rfl
     refine goD ?_; intros
     refine ds_if rfl (fun hi2 => ?_) (fun hi2 => ?_)
     ·have hi2 : inP f.pts (x, y) = true := by simpa using hi2
      refine goD ?_; intros
      refine dw_stupd rfl rfl rfl rfl (stUp_pt _ (x, y)) rfl ?_
      refine goD ?_; intros
      refine ⟨(hi.1 + 1 - (x + 1)).toNat, by omega, _, _, _, [], ?wk5, x + 1, putP l2 (x, y), by omega, by omega, rfl, hF2.put hib (by rw [hft, hb, hi2]; rfl), rfl, rfl, rfl⟩
      case wk5 => exact wkA
     ·have hi2 : inP f.pts (x, y) = false := by simpa using hi2
      refine goD ?_; intros
      refine ⟨(hi.1 + 1 - (x + 1)).toNat, by omega, _, _, _, [], ?wk6, x + 1, l2, by omega, by omega, rfl, hF2.skip (by rw [hft, hb, hi2]; rfl), rfl, rfl, rfl⟩
      case wk6 => exact wkA
   ·have hx3 := of_decide_eq_false hx3
    obtain rfl : x = hi.1 + 1 := by omega
    refine goD ?_; intros
    refine ⟨(hi.2 + 1 - (y + 1)).toNat, oM, _, _, _, [], ?wk7, y + 1, l2, oM, oM, rfl, hF2.row oM, rfl, rfl, rfl⟩
    case wk7 => exact wkA
  ·have hy3 := of_decide_eq_false hy3
   obtain rfl : y = hi.2 + 1 := by omega
   have hl1 := hF1.le
   have hl0 : 0 < l1.length := by
    obtain ⟨b, hb⟩ : ∃ q, f.pts[nxt f.pts 0]? = some q := ⟨_, List.getElem?_eq_getElem (nxt_lt oM)⟩
    exact List.length_pos_of_mem ((hF1.mem _).2 (.inl ((hA.mem _).2 ⟨0, a, b, ha, hb, lineP_fst a b⟩)))
   refine goD ?_; intros
   refine dw_wk (E0 := [(104, .one (.om 0))]) (S0 := [(0, mapB l1)]) (n0 := 1) [(0, 1)] ?hw ?_
   case hw => exact wkA
   refine dw_cx rfl rfl rfl (x_sorted hF1.nd hl0 oM _ _ _ _ _) ?_
   rintro _ S' _ ⟨rfl, hS, rfl⟩
   refine dw_keep (SubA.refl _) hS ?_
   refine goD ?_; intros
   refine ds_keep (SubA.cons (k := 2) rfl (SubA.nil _)) (SubA.cons (k := 6) rfl (SubA.nil _)) ?_
   have hfl := ptF_len (sortedP l1)
   refine ds_frz 6 rfl okZ okZ ?_
   refine ds_ret ⟨_, rfl, rfl, ?_⟩
   have he : sortedP l1 = pointsF f := by
    rw [pointsF, if_neg h1, if_neg h2]
    refine sorted_eq fun p => ?_
    rw [hF1.mem, hA.mem, List.mem_append, aroundL_mem, fillL, List.mem_filter, gridL_mem]
    constructor
    ·rintro (h|⟨h, _, h3⟩)
     ·exact .inl h
     ·refine .inr ⟨?_, h3⟩
      rw [in60_iff]
      unfold InBox at h
      omega
    ·rintro (h|⟨h, h3⟩)
     ·exact .inl h
     ·have hbp : InBox lo hi p := inP_box (L := f.pts) (fun q hq => by
       obtain ⟨j, hj⟩ := List.getElem?_of_mem hq
       exact hbx j q (List.getElem?_eq_some_iff.1 hj).1 hj) (by
       rw [Bool.and_eq_true] at h3
       exact h3.2)
      refine .inr ⟨hbp, ?_, h3⟩
      unfold InBox at hbp
      omega
   rw [he]
   rfl
theorem d_points {f : Ft} (hv : validF f = true) : DK 47 [ftD f] fun d => d = ptsD (pointsF f) := by
 by_cases h1 : f.kind = 1
 ·exact d_points1 hv h1
 ·by_cases h2 : f.kind = 2
  ·exact d_points2 hv h1 h2
  ·exact d_points3 hv h1 h2
def isRep : Nat -> List C -> Bool
 | 0, [] => true
 | n + 1, .bool false :: l => isRep n l
 | _, _ => false
theorem isRep_ok : ∀ {n : Nat} {l : List C}, isRep n l = true -> l = List.replicate n (.bool false)
 | 0, [], _ => rfl
 | 0, c :: l, h => by simp [isRep] at h
 | n + 1, [], h => by simp [isRep] at h
 | n + 1, c :: l, h => by
  cases c with
  | bool b =>
   cases b with
   | false =>
    have := isRep_ok (n := n) (l := l) h
    rw [this, List.replicate_succ]
   | true => simp [isRep] at h
  | _ => simp [isRep] at h
def bC (b : Bool) : DC := .f (.c (.bool b))
def arrB (A : List Bool) : Bk := .cells (A.map bC)
theorem rnB_arr (ρ : List (Nat × Nat)) (A : List Bool) : rnB ρ (arrB A) = arrB A := by
 simp only [rnB, arrB, rnL_map, List.map_map]
 congr 1
theorem allB_arr (n : Nat) : ∀ A : List Bool, allB (smC n) (A.map bC) = true
 | [] => rfl
 | b :: A => by rw [List.map_cons, allB, allB_arr n A]; rfl
theorem smB_arr (n : Nat) (A : List Bool) : smB n (arrB A) = true := allB_arr n A
theorem setLs_all' {α : Type} : ∀ (l pre X : List α), l.length = X.length -> setLs (pre ++ X) pre.length l = pre ++ l
 | [], pre, [], _ => rfl
 | [], _, _ :: _, h => by simp at h
 | _ :: _, _, [], h => by simp at h
 | c :: l, pre, x :: X, h => by
  rw [setLs]
  have : (pre ++ x :: X).set pre.length c = (pre ++ [c]) ++ X := by simp
  rw [this, show pre.length + 1 = (pre ++ [c]).length by simp, setLs_all' l (pre ++ [c]) X (by simpa using h)]
  simp
theorem setLs_all {α : Type} {l X : List α} (h : l.length = X.length) : setLs X 0 l = l := by simpa using setLs_all' l [] X h
theorem dw_arr {p : Par} {base rs : Nat} {Q : DEnv -> Bx -> Nat -> Prop} {r : List SOper} {A : List Nat} {E : DEnv} {i1 i2 i3 n : Nat} {z z' : List C} (hz : isRep n z = true) (hz' : isRep n z' = true)
  (h : DPW p base rs Q r [] A ((3, .one (.ptr 0 0)) :: (9, .agg ((List.replicate n (C.bool false)).map toC)) :: E) [(0, arrB (List.replicate n false))] 1) : DPW p base rs Q (⟨i1, some 9, .p (.build z []), none, none, [], false⟩ :: ⟨i2, some 3, .a (.alloc z'), none, none, [], false⟩ :: ⟨i3, none, .e (.store n (.t 3) (.t 9)), none, none, [], false⟩ :: r) [] A E [] 0 := by
 obtain rfl := isRep_ok hz
 obtain rfl := isRep_ok hz'
 refine dw_p (d := .agg ((List.replicate n (.bool false)).map toC)) rfl ?_
 refine dw_a (x := .cells ((List.replicate n (.bool false)).map toC)) rfl ?_
 refine dw_st (k := 0) (o := 0) rfl rfl rfl (by simp) rfl (by simp [Bk.len]) rfl ?_
 have e : stB (.cells ((List.replicate n (C.bool false)).map toC)) 0 ((List.replicate n (C.bool false)).map toC) = arrB (List.replicate n false) := by
  rw [stB, setLs_all rfl, arrB]
  simp [bC, toC]
 rw [<- e] at h
 exact h
theorem d_aaddr {E : DEnv} {x i : Opd} {k o len esz : Nat} {kd : IntKind} {j : Int} (hx : ro E x = some (.one (.ptr k o))) (hi : ro E i = some (.one (.f (.c (.int kd j))))) (h0 : 0 <= j) (h1 : j < len) : dPure E (.aaddr len esz x i) = some (.one (.ptr k (o + j.toNat * esz))) := by
 have e : idx j len = some j.toNat := by
  obtain ⟨n, rfl⟩ := Int.eq_ofNat_of_zero_le h0
  have : n < len := by omega
  show (match Nat.blt n len with|true => some n|false => none) = _
  rw [show Nat.blt n len = true by simpa using this]
  rfl
 simp only [dPure, hx, hi, e]
theorem dload_arr {p : Par} {E : DEnv} {S : Bx} {a : Opd} {k o : Nat} {A : List Bool} {b : Bool} (ha : ro E a = some (.one (.ptr k o))) (hk : lk S k = some (arrB A)) (hb : A[o]? = some b) : dLoad p E S false 1 a = some (.bool b) := by
 have h1 : o < A.length := (List.getElem?_eq_some_iff.1 hb).1
 have e : subL (A.map bC) o 1 = some [bC b] := by
  unfold subL
  rw [show Nat.ble (o + 1) (A.map bC).length = true by simp; omega]
  simp only [Option.some.injEq]
  rw [<- List.map_drop, List.drop_eq_getElem_cons h1]
  simp [(List.getElem?_eq_some_iff.1 hb).2]
 simp only [dLoad, ha, rdC, hk, arrB, e]
 rfl
theorem stB_arr (A : List Bool) (o : Nat) (b : Bool) : stB (arrB A) o [bC b] = arrB (A.set o b) := by
 rw [arrB, stB, setLs, setLs, arrB, List.map_set]
def linesN (L : List Pt2) (n : Nat) : List Pt2 := (List.range n).flatMap fun i => lineP (at0 L i) (at0 L (nxt L i))
theorem linesN_succ (L : List Pt2) (n : Nat) : linesN L (n + 1) = linesN L n ++ lineP (at0 L n) (at0 L (nxt L n)) := by
 simp [linesN, List.range_succ]
theorem linesN_le {L : List Pt2} (hl : Smalls3 L) : ∀ n, n <= L.length -> (linesN L n).length <= 2001 * n
 | 0, _ => by simp [linesN]
 | n + 1, h => by
  have h1 := linesN_le hl n oM
  have h2 := lineP_len_le (hl _ (at0_mem (i := n) oM)) (hl _ (at0_mem (nxt_lt (i := n) oM)))
  rw [linesN_succ, List.length_append]
  omega
theorem d_lines {L : List Pt2} {n : Nat} (hl : Smalls3 L) (hn : L.length < 100) (hnl : n <= L.length) : DK 50 [ptsD L, .int n] fun d => d = ptsD (linesN L n) := by
 refine dfn_ok cp50 rfl GHro fun Z0 lo => ?_
 refine goD ?_; intros
 refine ds_loop (fun m E S nk => ∃ i : Nat, i + m = n /\ E = [(0, ptsD L), (1, .int n), (5, .one (.own 0 0 (linesN L i).length 2)), (6, .int i)] /\ S = [(0, .data ((linesN L i).flatMap ptF))] /\ nk = 1)
  ⟨n, _, _, _, [], ?wk, 0, oM, rfl, rfl, rfl⟩ ?_
 case wk => exact wkA
 rintro m E S nk ⟨i, hi, rfl, rfl, rfl⟩
 refine goD ?_; intros
 refine ds_if rfl (fun ht => ?_) (fun ht => ?_)
 ·have ht : i < n := by have := of_decide_eq_true ht; omega
  have ha : L[i]? = some (at0 L i) := by rw [at0, List.getElem?_eq_getElem (by omega)]; rfl
  have hb : L[nxt L i]? = some (at0 L (nxt L i)) := by rw [at0, List.getElem?_eq_getElem (nxt_lt (by omega))]; rfl
  have hsa := hl _ (List.mem_of_getElem? ha)
  have hsb := hl _ (List.mem_of_getElem? hb)
  have h1 := linesN_le hl i oM
  have h2 := lineP_len_le hsa hsb
  have hfl := ptF_len (linesN L i)
  have hf2 := ptF_len (lineP (at0 L i) (at0 L (nxt L i)))
  refine goD ?_; intros
  refine dw_cf rfl rfl (d_side oM oM ha hb) ?_
  rintro _ rfl
  refine goD ?_; intros
  refine dw_cf rfl rfl (d_rline hsa hsb) ?_
  rintro _ rfl
  refine dw_app (m := (lineP (at0 L i) (at0 L (nxt L i))).length) (q := (lineP (at0 L i) (at0 L (nxt L i))).flatMap ptF) rfl rfl rfl (subL_all _ hfl) ⟨rfl, rfl, rfl⟩ oM oM (by decide) rfl ?_
  rw [<- List.flatMap_append, <- List.length_append, <- linesN_succ]
  refine goD ?_; intros
  refine ⟨m - 1, oM, _, _, _, [(0, 3)], ?wk1, i + 1, oM, rfl, rfl, rfl⟩
  case wk1 => exact wkA
 ·have ht : i = n := by have := of_decide_eq_false ht; omega
  subst ht
  have hfl := ptF_len (linesN L i)
  refine goD ?_; intros
  refine ds_keep (SubA.cons (k := 4) rfl (SubA.nil _)) (SubA.cons (k := 0) rfl (SubA.nil _)) ?_
  refine ds_frz 0 rfl okZ okZ ?_
  exact ds_ret ⟨_, rfl, rfl, rfl⟩
def rowL (y n : Nat) : List Pt2 := (List.range n).map fun (x : Nat) => ((x : Int), (y : Int))
def gridN (y : Nat) : List Pt2 := (List.range y).flatMap fun (y : Nat) => rowL y 60
theorem rowL_succ (y n : Nat) : rowL y (n + 1) = rowL y n ++ [((n : Int), (y : Int))] := by simp [rowL, List.range_succ]
theorem gridN_succ (y : Nat) : gridN (y + 1) = gridN y ++ rowL y 60 := by simp [gridN, List.range_succ]
theorem rowL_len (y n : Nat) : (rowL y n).length = n := by simp [rowL]
theorem gridN_len : ∀ y : Nat, (gridN y).length = 60 * y
 | 0 => rfl
 | y + 1 => by rw [gridN_succ, List.length_append, gridN_len y, rowL_len]; omega
theorem gridN_all : gridN 60 = gridL := rfl
theorem rowL_rows (y : Nat) : ∀ n, ByRows (rowL y n)
 | 0 => List.Pairwise.nil
 | n + 1 => by
  rw [rowL_succ]
  refine List.pairwise_append.2 ⟨rowL_rows y n, by simp, fun a ha b hb => ?_⟩
  rw [List.mem_singleton] at hb
  subst hb
  simp only [rowL, List.mem_map, List.mem_range] at ha
  obtain ⟨x, hx, rfl⟩ := ha
  rw [before_iff]
  exact .inr ⟨rfl, show (x : Int) < (n : Int) by omega⟩
theorem gridN_rows : ∀ n, ByRows (gridN n)
 | 0 => List.Pairwise.nil
 | n + 1 => by
  rw [gridN_succ]
  refine List.pairwise_append.2 ⟨gridN_rows n, rowL_rows n 60, fun a ha b hb => ?_⟩
  simp only [gridN, rowL, List.mem_flatMap, List.mem_map, List.mem_range] at ha hb
  obtain ⟨y, hy, x, hx, rfl⟩ := ha
  obtain ⟨x', hx', rfl⟩ := hb
  rw [before_iff]
  simp only
  omega
theorem sortedP_grid {l : List Pt2} (h : ∀ p ∈ l, in60 p = true) : gridL.filter (fun p => decide (p ∈ l)) = sortedP l := by
 refine ByRows.ext ?_ (sortedP_rows l) fun p => ?_
 ·rw [<- gridN_all]
  exact (gridN_rows 60).filter _
 ·rw [List.mem_filter, gridL_mem, sortedP_mem]
  simp only [decide_eq_true_eq]
  exact ⟨fun h => h.2, fun hp => ⟨h p hp, hp⟩⟩
structure Marks (l : List Pt2) (A : List Bool) : Prop where
 len : A.length = 3600
 at_ : ∀ p, in60 p = true -> A[0 + p.2.toNat * 60 + p.1.toNat * 1]? = some (decide (p ∈ l))
theorem Marks.nil : Marks [] (List.replicate 3600 false) := ⟨by rw [List.length_replicate], fun p hp => by
 rw [in60_iff] at hp
 rw [List.getElem?_replicate, if_pos (by omega)]
 simp⟩
theorem Marks.snoc {l : List Pt2} {A : List Bool} {q : Pt2} (h : Marks l A) (hq : in60 q = true) : Marks (l ++ [q]) (A.set (0 + q.2.toNat * 60 + q.1.toNat * 1) true) := ⟨by rw [List.length_set]; exact h.len, fun p hp => by
 have hl := h.len
 have h1 := h.at_ p hp
 rw [in60_iff] at hp hq
 rw [List.getElem?_set]
 by_cases he : p = q
 ·subst he
  rw [if_pos rfl, if_pos (by omega), decide_eq_true (by simp)]
 ·have hne : ¬ (p.1 = q.1 /\ p.2 = q.2) := fun h => he (Prod.ext h.1 h.2)
  rw [if_neg (by omega), h1]
  simp [he]⟩
set_option maxRecDepth 100000 in
set_option maxHeartbeats 4000000 in
theorem d_rsorted13 {l : List Pt2} (hin : ∀ p ∈ l, in60 p = true) (hn : l.length < 1000000) : DK 49 [ptsD l] fun d => d = ptsD (sortedP l) := by
 refine dfn_ok cp49 rfl GHro fun Z0 lo => ?_
 refine ds_seq ?_
 refine ds_ops mix (fun base => ?_)
 refine dw_p rfl ?_
 refine dw_nil ?_
 refine ds_seq ?_
 refine ds_ops mix (fun base => ?_)
 refine dw_arr (by kernel_rfl) (by kernel_rfl) ?_
 refine goD ?_; intros
 refine ds_loop (fun m E S nk => ∃ (i : Nat) (A : List Bool), i + m = l.length /\ Marks (l.take i) A /\ E = [(0, ptsD l), (3, .one (.ptr 0 0)), (4, .int i)] /\ S = [(0, arrB A)] /\ nk = 1)
  ⟨l.length, _, _, _, [], ?wk, 0, _, oM, Marks.nil, rfl, rfl, rfl⟩ ?_
 case wk => exact ⟨(by repeat (first|exact trivial|refine ⟨by first|rfl|exact cgI (by omega) (by omega), rfl, ?_⟩)), ⟨by rw [rnB_arr]; rfl, smB_arr _ _, rfl, trivial⟩, rfl, rfl⟩
 rintro m E S nk ⟨i, A, hi, hM, rfl, rfl, rfl⟩
 refine goD ?_; intros
 refine ds_if rfl (fun ht => ?_) (fun ht => ?_)
 ·have ht : i < l.length := by have := of_decide_eq_true ht; omega
  obtain ⟨q, hq⟩ : ∃ q, l[i]? = some q := ⟨_, List.getElem?_eq_getElem ht⟩
  have e1 := ptF_at hq
  have hq6 := hin q (List.mem_of_getElem? hq)
  have hq60 := in60_iff.1 hq6
  have b1 : decide (q.1 >= 0) = true := decide_eq_true hq60.1.1
  have b2 : decide (q.2 >= 0) = true := decide_eq_true hq60.2.1
  have b3 : decide (q.1 < 60) = true := decide_eq_true hq60.1.2
  have b4 : decide (q.2 < 60) = true := decide_eq_true hq60.2.2
  refine goB ?_; intros
  refine ds_if rfl (fun _ => ?_) (fun ht => by cases ht)
  refine goB ?_; intros
  refine dw_p (d_aaddr rfl rfl hq60.2.1 hq60.2.2) ?_
  refine goB ?_; intros
  refine dw_p (d_aaddr rfl rfl hq60.1.1 hq60.1.2) ?_
  have hlen : 0 + q.2.toNat * 60 + q.1.toNat * 1 + 1 <= (arrB A).len := by
   simp only [arrB, Bk.len, List.length_map, hM.len]
   omega
  refine dw_st rfl rfl rfl rfl rfl hlen rfl ?_
  refine dw_nil ?_
  have hM2 : Marks (l.take (i + 1)) (A.set (0 + q.2.toNat * 60 + q.1.toNat * 1) true) := by
   rw [List.take_add_one, hq]
   exact hM.snoc hq6
  refine ds_keep (E0 := [(0, ptsD l), (3, .one (.ptr 0 0)), (4, .int i)]) (S0 := [(0, arrB (A.set (0 + q.2.toNat * 60 + q.1.toNat * 1) true))]) (SubA.cons rfl (SubA.cons rfl (SubA.cons rfl (SubA.nil _)))) (SubA.cons (congrArg some (stB_arr A _ true)) (SubA.nil _)) ?_
  refine goD ?_; intros
  refine ⟨m - 1, oM, _, _, _, [], ?wk1, i + 1, _, oM, hM2, rfl, rfl, rfl⟩
  case wk1 => exact ⟨(by repeat (first|exact trivial|refine ⟨by first|rfl|exact cgI (by omega) (by omega), rfl, ?_⟩)), ⟨by rw [rnB_arr]; rfl, smB_arr _ _, rfl, trivial⟩, rfl, rfl⟩
 ·have ht : i = l.length := by have := of_decide_eq_false ht; omega
  subst ht
  rw [List.take_length] at hM
  refine goD ?_; intros
  refine ds_loop (fun m E S nk => ∃ (y : Nat) (out : List Pt2), y + m = 60 /\ out = (gridN y).filter (fun p => decide (p ∈ l)) /\ E = [(3, .one (.ptr 0 0)), (6, .one (.own 1 0 out.length 2)), (7, .int y)] /\ S = [(0, arrB A), (1, .data (out.flatMap ptF))] /\ nk = 2)
   ⟨60, _, _, _, [], ?wk2, 0, [], rfl, rfl, rfl, rfl, rfl⟩ ?_
  case wk2 => exact ⟨(by repeat (first|exact trivial|refine ⟨by first|rfl|exact cgI (by omega) (by omega), rfl, ?_⟩)), ⟨by rw [rnB_arr]; rfl, smB_arr _ _, rfl, rfl, rfl, rfl, trivial⟩, rfl, rfl⟩
  rintro m E S nk ⟨y, out, hy, ho, rfl, rfl, rfl⟩
  refine goD ?_; intros
  refine ds_if rfl (fun hy2 => ?_) (fun hy2 => ?_)
  ·have hy2 : y < 60 := by have := of_decide_eq_true hy2; omega
   refine goD ?_; intros
   refine ds_loop (fun m E S nk => ∃ (x : Nat) (out : List Pt2), x + m = 60 /\ out = (gridN y ++ rowL y x).filter (fun p => decide (p ∈ l)) /\ E = [(3, .one (.ptr 0 0)), (6, .one (.own 1 0 out.length 2)), (7, .int y), (8, .int x)] /\ S = [(0, arrB A), (1, .data (out.flatMap ptF))] /\ nk = 2)
    ⟨60, _, _, _, [], ?wk3, 0, out, rfl, by rw [ho]; simp [rowL], rfl, rfl, rfl⟩ ?_
   case wk3 => exact ⟨(by repeat (first|exact trivial|refine ⟨by first|rfl|exact cgI (by omega) (by omega), rfl, ?_⟩)), ⟨by rw [rnB_arr]; rfl, smB_arr _ _, rfl, rfl, rfl, rfl, trivial⟩, rfl, rfl⟩
   rintro m2 E S nk ⟨x, out2, hx, ho2, rfl, rfl, rfl⟩
   refine goD ?_; intros
   refine ds_if rfl (fun hx2 => ?_) (fun hx2 => ?_)
   ·have hx2 : x < 60 := by have := of_decide_eq_true hx2; omega
    have hp := hM.at_ ((x : Int), (y : Int)) (by rw [in60_iff]; simp only; omega)
    have hle : out2.length <= 3600 := by
     have h1 : out2.length <= (gridN y ++ rowL y x).length := by rw [ho2]; exact List.length_filter_le _ _
     have h2 : (gridN y ++ rowL y x).length = 60 * y + x := by rw [List.length_append, gridN_len, rowL_len]
     omega
    have hfl := ptF_len out2
    refine goD ?_; intros
    refine dw_p (d_aaddr rfl rfl (Int.natCast_nonneg _) oM) ?_
    refine goD ?_; intros
    refine dw_p (d_aaddr rfl rfl (Int.natCast_nonneg _) oM) ?_
    refine dw_l (dload_arr rfl rfl hp) ?_
    refine goD ?_; intros
    refine ds_if rfl (fun hb => ?_) (fun hb => ?_)
    ·have hb : decide (((x : Int), (y : Int)) ∈ l) = true := hb
     refine goD ?_; intros
     refine dw_app (m := 1) (q := ptF ((x : Int), (y : Int))) rfl rfl rfl (subL_all _ hfl) ⟨rfl, rfl, _, rfl, rfl⟩ oM oM (by decide) rfl ?_
     have h3 : (gridN y ++ rowL y (x + 1)).filter (fun p => decide (p ∈ l)) = out2 ++ [((x : Int), (y : Int))] := by rw [rowL_succ, <- List.append_assoc, List.filter_append, <- ho2]; simp [of_decide_eq_true hb]
     rw [show out2.flatMap ptF ++ ptF ((x : Int), (y : Int)) = (out2 ++ [((x : Int), (y : Int))]).flatMap ptF by simp, show out2.length + 1 = (out2 ++ [((x : Int), (y : Int))]).length by simp]
     refine goD ?_; intros
     refine ⟨m2 - 1, oM, _, _, _, [(1, 3)], ?wk6, x + 1, out2 ++ [((x : Int), (y : Int))], oM, h3.symm, rfl, rfl, rfl⟩
     case wk6 => exact ⟨(by repeat (first|exact trivial|refine ⟨by first|rfl|exact cgI (by omega) (by omega), rfl, ?_⟩)), ⟨by rw [rnB_arr]; rfl, smB_arr _ _, rfl, rfl, rfl, rfl, trivial⟩, rfl, rfl⟩
    ·have hb : decide (((x : Int), (y : Int)) ∈ l) = false := hb
     refine goD ?_; intros
     refine ⟨m2 - 1, by omega, _, _, _, [], ?wk4, x + 1, out2, by omega, by rw [rowL_succ, <- List.append_assoc, List.filter_append, <- ho2]; simp [hb], rfl, rfl, rfl⟩
     case wk4 => exact ⟨(by repeat (first|exact trivial|refine ⟨by first|rfl|exact cgI (by omega) (by omega), rfl, ?_⟩)), ⟨by rw [rnB_arr]; rfl, smB_arr _ _, rfl, rfl, rfl, rfl, trivial⟩, rfl, rfl⟩
   ·have hx2 : x = 60 := by have := of_decide_eq_false hx2; omega
    subst hx2
    refine goD ?_; intros
    refine ⟨m - 1, by omega, _, _, _, [], ?wk5, y + 1, out2, by omega, by rw [gridN_succ]; exact ho2, rfl, rfl, rfl⟩
    case wk5 => exact ⟨(by repeat (first|exact trivial|refine ⟨by first|rfl|exact cgI (by omega) (by omega), rfl, ?_⟩)), ⟨by rw [rnB_arr]; rfl, smB_arr _ _, rfl, rfl, rfl, rfl, trivial⟩, rfl, rfl⟩
  ·have hy2 : y = 60 := by have := of_decide_eq_false hy2; omega
   subst hy2
   refine goD ?_; intros
   have he : out = sortedP l := by rw [ho, gridN_all]; exact sortedP_grid hin
   have hfl := ptF_len out
   refine ds_keep (SubA.cons (k := 2) rfl (SubA.nil _)) (SubA.cons (k := 1) rfl (SubA.nil _)) ?_
   refine ds_frz 1 rfl okZ okZ ?_
   refine ds_ret ⟨_, rfl, rfl, ?_⟩
   rw [<- he]
   rfl
theorem do_lines {L : List Pt2} {n : Nat} (hl : Smalls3 L) (hn : L.length < 100) (hnl : n <= L.length) : DKO 50 [ptsD L, .int n] fun d S nk => d = .one (.own 0 0 (linesN L n).length 2) /\ S = [(0, .data ((linesN L n).flatMap ptF))] /\ nk = 1 := by
 refine dfnO_ok cp50 rfl GHro fun Z0 lo => ?_
 refine goD ?_; intros
 refine ds_loop (fun m E S nk => ∃ i : Nat, i + m = n /\ E = [(0, ptsD L), (1, .int n), (5, .one (.own 0 0 (linesN L i).length 2)), (6, .int i)] /\ S = [(0, .data ((linesN L i).flatMap ptF))] /\ nk = 1)
  ⟨n, _, _, _, [], ?wk, 0, oM, rfl, rfl, rfl⟩ ?_
 case wk => exact wkA
 rintro m E S nk ⟨i, hi, rfl, rfl, rfl⟩
 refine goD ?_; intros
 refine ds_if rfl (fun ht => ?_) (fun ht => ?_)
 ·have ht : i < n := by have := of_decide_eq_true ht; omega
  have ha : L[i]? = some (at0 L i) := by rw [at0, List.getElem?_eq_getElem (by omega)]; rfl
  have hb : L[nxt L i]? = some (at0 L (nxt L i)) := by rw [at0, List.getElem?_eq_getElem (nxt_lt (by omega))]; rfl
  have hsa := hl _ (List.mem_of_getElem? ha)
  have hsb := hl _ (List.mem_of_getElem? hb)
  have h1 := linesN_le hl i oM
  have h2 := lineP_len_le hsa hsb
  have hfl := ptF_len (linesN L i)
  have hf2 := ptF_len (lineP (at0 L i) (at0 L (nxt L i)))
  refine goD ?_; intros
  refine dw_cf rfl rfl (d_side oM oM ha hb) ?_
  rintro _ rfl
  refine goD ?_; intros
  refine dw_cf rfl rfl (d_rline hsa hsb) ?_
  rintro _ rfl
  refine dw_app (m := (lineP (at0 L i) (at0 L (nxt L i))).length) (q := (lineP (at0 L i) (at0 L (nxt L i))).flatMap ptF) rfl rfl rfl (subL_all _ hfl) ⟨rfl, rfl, rfl⟩ oM oM (by decide) rfl ?_
  rw [<- List.flatMap_append, <- List.length_append, <- linesN_succ]
  refine goD ?_; intros
  refine ⟨m - 1, oM, _, _, _, [(0, 3)], ?wk1, i + 1, oM, rfl, rfl, rfl⟩
  case wk1 => exact wkA
 ·have ht : i = n := by have := of_decide_eq_false ht; omega
  subst ht
  have hfl := ptF_len (linesN L i)
  refine goD ?_; intros
  exact ds_ret ⟨_, rfl, rfl, _, SubA.refl _, rfl, rfl, rfl⟩
theorem lineP_in60 {a b p : Pt2} (ha : in60 a = true) (hb : in60 b = true) (h : p ∈ lineP a b) : in60 p = true := by
 obtain ⟨k, hk⟩ := List.getElem?_of_mem h
 have h1 := (List.getElem?_eq_some_iff.1 hk).1
 rw [lineP_len] at h1
 have hf := far_abs a b
 have h2 : (k : Int) <= far a b := by omega
 rw [lineP_at a b h2] at hk
 obtain rfl := Option.some.inj hk
 have h3 := lineAt_in a b h2
 rw [in60_iff] at *
 omega
theorem linesN_in60 {L : List Pt2} (hL : ∀ p ∈ L, in60 p = true) {n : Nat} (hn : n <= L.length) {p : Pt2} (h : p ∈ linesN L n) : in60 p = true := by
 simp only [linesN, List.mem_flatMap, List.mem_range] at h
 obtain ⟨i, hi, hp⟩ := h
 exact lineP_in60 (hL _ (at0_mem oM)) (hL _ (at0_mem (nxt_lt oM))) hp
theorem d_rtexI {t : Int} {k : Nat} {p : Pt2} (ht : t = k) (hk : k < 4) (hp : Small 1000 p) : DK 51 [.int t, ptD p] fun d => d = .bool (texP t p) := by rw [ht]; exact d_rtex hk hp
set_option maxHeartbeats 4000000 in
theorem d_rpoints {f : Ft} (hv : validF f = true) : DK 37 [ftD f] fun d => d = ptsD (pointsF f) := by
 obtain ⟨⟨hn1, hn2⟩, hin, hk⟩ := valid_pts hv
 have hsm : Smalls3 f.pts := fun p hp => in60_small (hin p hp)
 refine dfn_ok cp37 rfl GHro fun Z0 lo => ?_
 by_cases h1 : f.kind = 1
 ·have b1 : (f.kind == 1) = true := by simpa using h1
  refine goB ?_; intros
  refine ds_if rfl (fun _ => ?_) (fun ht => by cases ht)
  refine goB ?_; intros
  refine ds_ret ⟨_, rfl, rfl, ?_⟩
  rw [pointsF, if_pos h1]
  rfl
 ·have b1 : (f.kind == 1) = false := by simpa using h1
  by_cases h2 : f.kind = 2
  ·have b2 : (f.kind == 2) = true := by simpa using h2
   have hw : IntKind.i64.wrap ((f.pts.length : Int) - 1) = ((f.pts.length - 1 : Nat) : Int) := by rw [dwrap (by omega) (by omega)]; omega
   have hll := linesN_le hsm (f.pts.length - 1) oM
   refine goB ?_; intros
   refine ds_if rfl (fun ht => by cases ht) (fun _ => ?_)
   refine goB ?_; intros
   refine ds_if rfl (fun _ => ?_) (fun ht => by cases ht)
   refine goB ?_; intros
   rw [hw]
   refine dw_cf rfl rfl (d_lines hsm oM oM) ?_
   rintro _ rfl
   refine dw_cf rfl rfl (d_rsorted13 (fun p hp => linesN_in60 hin oM hp) oM) ?_
   rintro _ rfl
   refine goB ?_; intros
   refine ds_ret ⟨_, rfl, rfl, ?_⟩
   rw [pointsF, if_neg h1, if_pos h2]
   rfl
  ·have b2 : (f.kind == 2) = false := by simpa using h2
   obtain ⟨k, hk4, hft⟩ : ∃ k : Nat, k < 4 /\ f.tex = k := by
    rw [kindOk, if_neg h1, if_neg h2] at hk
    by_cases h3 : f.kind = 3
    ·rw [if_pos h3] at hk
     simp at hk
     exact ⟨f.tex.toNat, oM, oM⟩
    ·rw [if_neg h3] at hk
     cases hk
   have hll := linesN_le hsm f.pts.length oM
   refine goB ?_; intros
   refine ds_if rfl (fun ht => by cases ht) (fun _ => ?_)
   refine goB ?_; intros
   refine ds_if rfl (fun ht => by cases ht) (fun _ => ?_)
   refine goB ?_; intros
   refine dw_cfr rfl rfl (do_lines hsm oM oM) ?_
   rintro _ _ _ ⟨rfl, rfl, rfl⟩
   refine dw_p rfl ?_
   refine goD ?_; intros
   refine ds_loop (fun m E S nk => ∃ (y : Nat) (out : List Pt2), y + m = 60 /\ out = linesN f.pts f.pts.length ++ (gridN y).filter (fun p => texP f.tex p && inP f.pts p) /\ E = [(1, .one (.ptr 0 0)), (3, .one (.own 1 0 out.length 2)), (4, .int y)] /\ S = [(0, .cells [.f (.c (.int .i64 f.kind)), .f (.c (.int .i64 f.tex)), .f (.sl 2 f.pts.length (f.pts.flatMap ptF))]), (1, .data (out.flatMap ptF))] /\ nk = 2)
    ⟨60, _, _, _, [], ?wk2, 0, linesN f.pts f.pts.length, rfl, by simp [gridN], rfl, rfl, rfl⟩ ?_
   case wk2 => exact wkA
   rintro m E S nk ⟨y, out, hy, ho, rfl, rfl, rfl⟩
   refine goD ?_; intros
   refine ds_if rfl (fun hy2 => ?_) (fun hy2 => ?_)
   ·have hy2 : y < 60 := by have := of_decide_eq_true hy2; omega
    refine goD ?_; intros
    refine ds_loop (fun m E S nk => ∃ (x : Nat) (out : List Pt2), x + m = 60 /\ out = linesN f.pts f.pts.length ++ (gridN y ++ rowL y x).filter (fun p => texP f.tex p && inP f.pts p) /\ E = [(1, .one (.ptr 0 0)), (3, .one (.own 1 0 out.length 2)), (4, .int y), (5, .int x)] /\ S = [(0, .cells [.f (.c (.int .i64 f.kind)), .f (.c (.int .i64 f.tex)), .f (.sl 2 f.pts.length (f.pts.flatMap ptF))]), (1, .data (out.flatMap ptF))] /\ nk = 2)
     ⟨60, _, _, _, [], ?wk3, 0, out, rfl, by rw [ho]; simp [rowL], rfl, rfl, rfl⟩ ?_
    case wk3 => exact wkA
    rintro m2 E S nk ⟨x, out2, hx, ho2, rfl, rfl, rfl⟩
    refine goD ?_; intros
    refine ds_if rfl (fun hx2 => ?_) (fun hx2 => ?_)
    ·have hx2 : x < 60 := by have := of_decide_eq_true hx2; omega
     have hxs : Small 1000 ((x : Int), (y : Int)) := by unfold Small; simp only; omega
     have hle : out2.length <= 100000 := by
      have h1 : ((gridN y ++ rowL y x).filter (fun p => texP f.tex p && inP f.pts p)).length <= (gridN y ++ rowL y x).length := List.length_filter_le _ _
      have h2 : (gridN y ++ rowL y x).length = 60 * y + x := by rw [List.length_append, gridN_len, rowL_len]
      rw [ho2, List.length_append]
      omega
     have hfl := ptF_len out2
     have hstep : linesN f.pts f.pts.length ++ (gridN y ++ rowL y (x + 1)).filter (fun p => texP f.tex p && inP f.pts p) = out2 ++ (if (texP f.tex ((x : Int), (y : Int)) && inP f.pts ((x : Int), (y : Int))) = true then [((x : Int), (y : Int))] else []) := by
      rw [rowL_succ, <- List.append_assoc, List.filter_append, <- List.append_assoc, <- ho2]
      congr 1
      rw [List.filter_cons, List.filter_nil]
     refine goD ?_; intros
     refine dw_cf rfl rfl (d_rtexI hft hk4 hxs) ?_
     rintro _ rfl
     cases hb : texP f.tex ((x : Int), (y : Int)) with
     | false =>
      rw [hb, Bool.false_and, if_neg (by decide), List.append_nil] at hstep
      refine goD ?_; intros
      refine ds_if rfl (fun ht => by cases ht) (fun _ => ?_)
      refine goD ?_; intros
      refine ⟨m2 - 1, oM, _, _, _, [], ?wk4, x + 1, out2, oM, hstep.symm, rfl, rfl, rfl⟩
      case wk4 => exact wkA
     | true =>
      rw [hb, Bool.true_and] at hstep
      refine goD ?_; intros
      refine dw_cf rfl rfl (d_rinside (p := ((x : Int), (y : Int))) hsm hxs oM) ?_
      rintro _ rfl
      refine goD ?_; intros
      refine ds_if rfl (fun hi2 => ?_) (fun hi2 => ?_)
      ·have hi2 : inP f.pts ((x : Int), (y : Int)) = true := by simpa using hi2
       rw [hi2, if_pos rfl] at hstep
       refine goD ?_; intros
       refine dw_app (m := 1) (q := ptF ((x : Int), (y : Int))) rfl rfl rfl (subL_all _ hfl) ⟨rfl, rfl, _, rfl, rfl⟩ oM oM (by decide) rfl ?_
       rw [show out2.flatMap ptF ++ ptF ((x : Int), (y : Int)) = (out2 ++ [((x : Int), (y : Int))]).flatMap ptF by simp, show out2.length + 1 = (out2 ++ [((x : Int), (y : Int))]).length by simp]
       refine goD ?_; intros
       refine ⟨m2 - 1, oM, _, _, _, [(1, 4)], ?wk6, x + 1, out2 ++ [((x : Int), (y : Int))], oM, hstep.symm, rfl, rfl, rfl⟩
       case wk6 => exact wkA
      ·have hi2 : inP f.pts ((x : Int), (y : Int)) = false := by simpa using hi2
       rw [hi2, if_neg (by decide), List.append_nil] at hstep
       refine goD ?_; intros
       refine ⟨m2 - 1, oM, _, _, _, [], ?wk7, x + 1, out2, oM, hstep.symm, rfl, rfl, rfl⟩
       case wk7 => exact wkA
    ·have hx2 : x = 60 := by have := of_decide_eq_false hx2; omega
     subst hx2
     refine goD ?_; intros
     refine ⟨m - 1, by omega, _, _, _, [], ?wk5, y + 1, out2, by omega, by rw [gridN_succ]; exact ho2, rfl, rfl, rfl⟩
     case wk5 => exact wkA
   ·have hy2 : y = 60 := by have := of_decide_eq_false hy2; omega
    subst hy2
    have hfl := ptF_len out
    have hout : out = aroundL f.pts ++ fillL f := ho
    have hin2 : ∀ p ∈ out, in60 p = true := fun p hp => by
     rw [hout, List.mem_append] at hp
     rcases hp with hp|hp
     ·exact linesN_in60 hin (Nat.le_refl _) hp
     ·exact gridL_mem.1 (List.mem_filter.1 hp).1
    have hol : out.length < 1000000 := by
     have h1 : ((gridN 60).filter (fun p => texP f.tex p && inP f.pts p)).length <= (gridN 60).length := List.length_filter_le _ _
     rw [gridN_len] at h1
     rw [ho, List.length_append]
     omega
    refine goD ?_; intros
    refine dw_keep (E0 := [(54, .one (.own 1 0 out.length 2))]) (S0 := [(1, .data (out.flatMap ptF))]) (SubA.cons rfl (SubA.nil _)) (SubA.cons rfl (SubA.nil _)) ?_
    refine dw_frz 1 rfl okZ okZ ?_
    refine dw_cf (ds := [ptsD out]) rfl rfl (d_rsorted13 hin2 hol) ?_
    rintro _ rfl
    refine goD ?_; intros
    refine ds_ret ⟨_, rfl, rfl, ?_⟩
    rw [pointsF, if_neg h1, if_neg h2, <- hout]
    rfl
structure Pic where
 w : Int
 h : Int
 gap : Int
 fs : List Ft
def picC (p : Pic) : List DC := [.f (.c (.int .i64 p.w)), .f (.c (.int .i64 p.h)), .f (.c (.int .i64 p.gap)), .f (.sl 3 p.fs.length (p.fs.flatMap ftF))]
def picD (p : Pic) : DV := .agg (picC p)
theorem ftF_at {l : List Ft} {i : Nat} {x : Ft} (h : l[i]? = some x) : subL (l.flatMap ftF) (i * 3) 3 = some (ftF x) := subL_flat (e := 3) (fun _ => rfl) h
theorem ftF_len (l : List Ft) : (l.flatMap ftF).length = l.length * 3 := flat_length (f := ftF) (e := 3) (fun _ => rfl) l
def headOk (p : Pic) : Bool := (decide (4 <= p.w) && decide (p.w <= 60) && decide (p.w.tmod 2 = 0)) && (decide (3 <= p.h) && decide (p.h <= 60) && decide (p.h.tmod 3 = 0))
def gapOk (p : Pic) : Bool := (decide (2 <= p.gap) && decide (p.gap <= 6)) && (decide (1 <= p.fs.length) && decide (p.fs.length <= 8))
def ptIn (w h : Int) (q : Pt2) : Bool := decide (q.1 < w) && decide (q.2 < h)
def ftOk (p : Pic) (f : Ft) : Bool := validF f && f.pts.all (ptIn p.w p.h)
def validPic (p : Pic) : Bool := (headOk p && gapOk p) && p.fs.all (ftOk p)
def Fine (p : Pic) : Prop := p.fs.length < 1000 /\ ∀ f ∈ p.fs, f.pts.length < 1000
theorem bne0 {a : Int} : (a != 0) = !decide (a = 0) := by
 by_cases h : a = 0
 ·simp [h]
 ·rw [decide_eq_false h]; simpa using h
theorem headOk_bad {p : Pic} (h : (p.w < 4 \/ 60 < p.w \/ ¬ p.w.tmod 2 = 0 \/ p.h < 3 \/ 60 < p.h \/ ¬ p.h.tmod 3 = 0)) : headOk p = false := by
 rw [Bool.eq_false_iff]
 intro h2
 simp only [headOk, Bool.and_eq_true, decide_eq_true_eq] at h2
 omega
theorem all_bad {α : Type} {f : α -> Bool} {l : List α} {i : Nat} {x : α} (hx : l[i]? = some x) (h : f x = false) : l.all f = false := by
 rw [List.all_eq_false]
 exact ⟨x, List.mem_of_getElem? hx, by rw [h]; decide⟩
theorem all_good {α : Type} {f : α -> Bool} {l : List α} (h : ∀ (j : Nat) x, j < l.length -> l[j]? = some x -> f x = true) : l.all f = true := by
 rw [List.all_eq_true]
 intro x hx
 obtain ⟨j, hj⟩ := List.getElem?_of_mem hx
 exact h j x (List.getElem?_eq_some_iff.1 hj).1 hj
set_option maxHeartbeats 4000000 in
theorem d_apvalid {p : Pic} (hF : Fine p) : DK 32 [picD p] fun d => d = .bool (validPic p) := by
 refine dfn_ok cp32 rfl GHro fun Z0 lo => ?_
 refine goD ?_; intros
 refine ds_if rfl (fun ht => ?_) (fun ht => ?_)
 ·rw [itOr, itOr, itOr, itOr, itOr] at ht
  simp only [bne0, Bool.or_eq_true, decide_eq_true_eq, Bool.not_eq_true', decide_eq_false_iff_not] at ht
  refine goD ?_; intros
  refine ds_ret ⟨_, rfl, rfl, ?_⟩
  rw [validPic, headOk_bad (by omega)]
  rfl
 ·rw [itOr, itOr, itOr, itOr, itOr] at ht
  simp only [bne0, Bool.or_eq_false_iff, decide_eq_false_iff_not, Bool.not_eq_false', decide_eq_true_eq] at ht
  have hh : headOk p = true := by simp only [headOk, Bool.and_eq_true, decide_eq_true_eq]; omega
  refine goD ?_; intros
  refine ds_if rfl (fun ht2 => ?_) (fun ht2 => ?_)
  ·rw [itOr, itOr, itOr] at ht2
   simp only [Bool.or_eq_true, decide_eq_true_eq] at ht2
   have hg : gapOk p = false := by
    rw [Bool.eq_false_iff]
    intro h2
    simp only [gapOk, Bool.and_eq_true, decide_eq_true_eq] at h2
    omega
   refine goD ?_; intros
   refine ds_ret ⟨_, rfl, rfl, ?_⟩
   rw [validPic, hg, Bool.and_false]
   rfl
  ·rw [itOr, itOr, itOr] at ht2
   simp only [Bool.or_eq_false_iff, decide_eq_false_iff_not] at ht2
   have hg : gapOk p = true := by simp only [gapOk, Bool.and_eq_true, decide_eq_true_eq]; omega
   have hv : validPic p = p.fs.all (ftOk p) := by rw [validPic, hh, hg]; rfl
   rw [hv]
   refine goD ?_; intros
   refine ds_loop (fun m E S nk => ∃ i : Nat, i + m = p.fs.length /\ (∀ (j : Nat) f, j < i -> p.fs[j]? = some f -> ftOk p f = true) /\ E = [(1, .one (.ptr 0 0)), (58, .one (.f (.sl 3 p.fs.length (p.fs.flatMap ftF)))), (59, .int p.fs.length), (60, .int i)] /\ S = [(0, .cells (picC p))] /\ nk = 1)
    ⟨p.fs.length, _, _, _, [], ?wk, 0, oM, fun j q hj => oM, rfl, rfl, rfl⟩ ?_
   case wk => exact wkA
   rintro m E S nk ⟨i, hi, hok, rfl, rfl, rfl⟩
   refine goD ?_; intros
   refine ds_if rfl (fun hi2 => ?_) (fun hi2 => ?_)
   ·have hi2 : i < p.fs.length := by have := of_decide_eq_true hi2; omega
    obtain ⟨f, hf⟩ : ∃ f, p.fs[i]? = some f := ⟨_, List.getElem?_eq_getElem hi2⟩
    have e1 := ftF_at hf
    have hfl := hF.2 f (List.mem_of_getElem? hf)
    refine goD ?_; intros
    refine dw_cf rfl rfl (d_valid hfl) ?_
    rintro _ rfl
    refine goD ?_; intros
    refine ds_if rfl (fun hv1 => ?_) (fun hv1 => ?_)
    ·have hv1 : validF f = false := by simpa using hv1
     refine goD ?_; intros
     refine ds_ret ⟨_, rfl, rfl, ?_⟩
     rw [all_bad hf (by rw [ftOk, hv1]; rfl)]
    ·have hv1 : validF f = true := by simpa using hv1
     refine goD ?_; intros
     refine ds_loop (fun m E S nk => ∃ j : Nat, j + m = f.pts.length /\ (∀ (k : Nat) q, k < j -> f.pts[k]? = some q -> ptIn p.w p.h q = true) /\ E = [(1, .one (.ptr 0 0)), (58, .one (.f (.sl 3 p.fs.length (p.fs.flatMap ftF)))), (59, .int p.fs.length), (60, .int i), (68, ptsD f.pts), (69, .int f.pts.length), (70, .int j)] /\ S = [(0, .cells (picC p))] /\ nk = 1)
      ⟨f.pts.length, _, _, _, [], ?wk2, 0, oM, fun j q hj => oM, rfl, rfl, rfl⟩ ?_
     case wk2 => exact wkA
     rintro m2 E S nk ⟨j, hj, hok2, rfl, rfl, rfl⟩
     refine goD ?_; intros
     refine ds_if rfl (fun hj2 => ?_) (fun hj2 => ?_)
     ·have hj2 : j < f.pts.length := by have := of_decide_eq_true hj2; omega
      obtain ⟨q, hq⟩ : ∃ q, f.pts[j]? = some q := ⟨_, List.getElem?_eq_getElem hj2⟩
      have e2 := ptF_at hq
      refine goD ?_; intros
      refine ds_if rfl (fun hb => ?_) (fun hb => ?_)
      ·rw [itOr] at hb
       simp only [Bool.or_eq_true, decide_eq_true_eq] at hb
       have hb : ptIn p.w p.h q = false := by
        rw [Bool.eq_false_iff]
        intro h2
        simp only [ptIn, Bool.and_eq_true, decide_eq_true_eq] at h2
        omega
       refine goD ?_; intros
       refine ds_ret ⟨_, rfl, rfl, ?_⟩
       rw [all_bad hf (by rw [ftOk, all_bad hq hb, Bool.and_false])]
      ·rw [itOr] at hb
       simp only [Bool.or_eq_false_iff, decide_eq_false_iff_not] at hb
       have hb : ptIn p.w p.h q = true := by simp only [ptIn, Bool.and_eq_true, decide_eq_true_eq]; omega
       refine goD ?_; intros
       refine ⟨m2 - 1, oM, _, _, _, [], ?wk3, j + 1, oM, ?hno, rfl, rfl, rfl⟩
       case hno =>
        intro k q' hk hq'
        by_cases hkj : k = j
        ·subst hkj; rw [hq] at hq'; rw [<- Option.some.inj hq']; exact hb
        ·exact hok2 k q' oM hq'
       case wk3 => exact wkA
     ·have hj2 : j = f.pts.length := by have := of_decide_eq_false hj2; omega
      subst hj2
      refine goD ?_; intros
      refine ⟨m - 1, oM, _, _, _, [], ?wk4, i + 1, oM, ?hno2, rfl, rfl, rfl⟩
      case hno2 =>
       intro k f' hk hf'
       by_cases hki : k = i
       ·subst hki; rw [hf] at hf'; rw [<- Option.some.inj hf', ftOk, hv1, all_good hok2]; rfl
       ·exact hok k f' oM hf'
      case wk4 => exact wkA
   ·have hi2 : i = p.fs.length := by have := of_decide_eq_false hi2; omega
    subst hi2
    refine goD ?_; intros
    refine ds_ret ⟨_, rfl, rfl, ?_⟩
    rw [all_good hok]
def ptIn2 (w h : Int) (q : Pt2) : Bool := (decide (0 <= q.1) && decide (q.1 < w)) && (decide (0 <= q.2) && decide (q.2 < h))
theorem ptIn2_bad {w h : Int} {q : Pt2} (hb : q.1 < 0 \/ q.1 >= w \/ q.2 < 0 \/ q.2 >= h) : ptIn2 w h q = false := by
 rw [Bool.eq_false_iff]
 intro h2
 simp only [ptIn2, Bool.and_eq_true, decide_eq_true_eq] at h2
 omega
set_option maxHeartbeats 4000000 in
theorem d_rinside31 {l : List Pt2} {w h : Int} (hn : l.length < 1000000) : DK 43 [ptsD l, .int w, .int h] fun d => d = .bool (l.all (ptIn2 w h)) := by
 refine dfn_ok cp43 rfl GHro fun Z0 lo => ?_
 refine goD ?_; intros
 refine ds_loop (fun m E S nk => ∃ i : Nat, i + m = l.length /\ (∀ (j : Nat) q, j < i -> l[j]? = some q -> ptIn2 w h q = true) /\ E = [(0, ptsD l), (1, .int w), (2, .int h), (7, .int i)] /\ S = [] /\ nk = 0)
  ⟨l.length, _, _, _, [], ?wk, 0, oM, fun j q hj => oM, rfl, rfl, rfl⟩ ?_
 case wk => exact wkA
 rintro m E S nk ⟨i, hi, hok, rfl, rfl, rfl⟩
 refine goD ?_; intros
 refine ds_if rfl (fun ht => ?_) (fun ht => ?_)
 ·have ht : i < l.length := by have := of_decide_eq_true ht; omega
  obtain ⟨q, hq⟩ : ∃ q, l[i]? = some q := ⟨_, List.getElem?_eq_getElem ht⟩
  have e1 := ptF_at hq
  by_cases h1 : q.1 < 0
  ·have b1 : decide (q.1 < 0) = true := decide_eq_true h1
   refine goB ?_; intros
   refine ds_if rfl (fun _ => ?_) (fun ht => by cases ht)
   refine goB ?_; intros
   refine ds_ret ⟨_, rfl, rfl, ?_⟩
   rw [all_bad hq (ptIn2_bad (by omega))]
  ·have b1 : decide (q.1 < 0) = false := decide_eq_false h1
   by_cases h2 : q.1 >= w
   ·have b2 : decide (q.1 >= w) = true := decide_eq_true h2
    refine goB ?_; intros
    refine ds_if rfl (fun _ => ?_) (fun ht => by cases ht)
    refine goB ?_; intros
    refine ds_ret ⟨_, rfl, rfl, ?_⟩
    rw [all_bad hq (ptIn2_bad (by omega))]
   ·have b2 : decide (q.1 >= w) = false := decide_eq_false h2
    by_cases h3 : q.2 < 0
    ·have b3 : decide (q.2 < 0) = true := decide_eq_true h3
     refine goB ?_; intros
     refine ds_if rfl (fun _ => ?_) (fun ht => by cases ht)
     refine goB ?_; intros
     refine ds_ret ⟨_, rfl, rfl, ?_⟩
     rw [all_bad hq (ptIn2_bad (by omega))]
    ·have b3 : decide (q.2 < 0) = false := decide_eq_false h3
     by_cases h4 : q.2 >= h
     ·have b4 : decide (q.2 >= h) = true := decide_eq_true h4
      refine goB ?_; intros
      refine ds_if rfl (fun _ => ?_) (fun ht => by cases ht)
      refine goB ?_; intros
      refine ds_ret ⟨_, rfl, rfl, ?_⟩
      rw [all_bad hq (ptIn2_bad (by omega))]
     ·have b4 : decide (q.2 >= h) = false := decide_eq_false h4
      refine goB ?_; intros
      refine ds_if rfl (fun ht => by cases ht) (fun _ => ?_)
      refine goB ?_; intros
      refine ⟨m - 1, oM, _, _, _, [], ?wk1, i + 1, oM, ?hno, rfl, rfl, rfl⟩
      case hno =>
       intro k q' hk hq'
       by_cases hki : k = i
       ·subst hki
        rw [hq] at hq'
        rw [<- Option.some.inj hq']
        simp only [ptIn2, Bool.and_eq_true, decide_eq_true_eq]
        omega
       ·exact hok k q' oM hq'
      case wk1 => exact wkA
 ·have ht : i = l.length := by have := of_decide_eq_false ht; omega
  subst ht
  refine goD ?_; intros
  refine ds_ret ⟨_, rfl, rfl, ?_⟩
  rw [all_good hok]
theorem pointsF_box {f : Ft} {lo hi : Pt2} (h : ∀ q ∈ f.pts, InBox lo hi q) : ∀ p ∈ pointsF f, InBox lo hi p := by
 have hline : ∀ {a b p : Pt2}, InBox lo hi a -> InBox lo hi b -> p ∈ lineP a b -> InBox lo hi p := by
  intro a b p ha hb hp
  obtain ⟨k, hk⟩ := List.getElem?_of_mem hp
  have h1 := (List.getElem?_eq_some_iff.1 hk).1
  rw [lineP_len] at h1
  have hf := far_abs a b
  have h2 : (k : Int) <= far a b := by omega
  rw [lineP_at a b h2] at hk
  obtain rfl := Option.some.inj hk
  have h3 := lineAt_in a b h2
  unfold InBox at *
  omega
 have hlines : ∀ {n : Nat} {p : Pt2}, n <= f.pts.length -> p ∈ linesN f.pts n -> InBox lo hi p := by
  intro n p hn hp
  simp only [linesN, List.mem_flatMap, List.mem_range] at hp
  obtain ⟨i, hi, hp⟩ := hp
  exact hline (h _ (at0_mem oM)) (h _ (at0_mem (nxt_lt oM))) hp
 intro p hp
 unfold pointsF at hp
 split at hp
 ·exact h p hp
 ·split at hp
  ·rw [sortedP_mem] at hp
   exact hlines (n := f.pts.length - 1) oM hp
  ·rw [sortedP_mem, List.mem_append] at hp
   rcases hp with hp|hp
   ·exact hlines (Nat.le_refl _) hp
   ·have := (List.mem_filter.1 hp).2
    rw [Bool.and_eq_true] at this
    exact inP_box h this.2
theorem lineP_last (a b : Pt2) : b ∈ lineP a b := by
 have hf := far_abs a b
 have h := lineP_at a b (k := (far a b).toNat) oM
 rw [lineAt_full] at h
 exact List.mem_of_getElem? h
theorem corner_mem {f : Ft} (hv : validF f = true) {q : Pt2} (hq : q ∈ f.pts) : q ∈ pointsF f := by
 obtain ⟨⟨hn1, hn2⟩, hin, hk⟩ := valid_pts hv
 obtain ⟨i, hi⟩ := List.getElem?_of_mem hq
 have hlt := (List.getElem?_eq_some_iff.1 hi).1
 have hsome : ∀ j, j < f.pts.length -> f.pts[j]? = some (at0 f.pts j) := fun j hj => by rw [at0, List.getElem?_eq_getElem hj]; rfl
 unfold pointsF
 split
 ·exact hq
 ·split
  ·rename_i h1 h2
   have hl2 : 2 <= f.pts.length := by
    rw [kindOk, if_neg h1, if_pos h2] at hk
    simp at hk
    exact hk.1
   rw [sortedP_mem, alongL_mem]
   by_cases hl : i < f.pts.length - 1
   ·exact ⟨i, _, _, hl, hi, hsome _ oM, lineP_fst _ _⟩
   ·obtain rfl : i = (f.pts.length - 2) + 1 := by omega
    exact ⟨f.pts.length - 2, _, _, oM, hsome _ oM, hi, lineP_last _ _⟩
  ·rw [sortedP_mem, List.mem_append]
   exact .inl (aroundL_mem.2 ⟨i, _, _, hi, hsome _ (nxt_lt hlt), lineP_fst _ _⟩)
theorem inside_eq {f : Ft} (hv : validF f = true) (w h : Int) : (pointsF f).all (ptIn2 w h) = f.pts.all (ptIn w h) := by
 obtain ⟨_, hin, _⟩ := valid_pts hv
 rw [Bool.eq_iff_iff, List.all_eq_true, List.all_eq_true]
 constructor
 ·intro h1 q hq
  have := h1 q (corner_mem hv hq)
  simp only [ptIn2, ptIn, Bool.and_eq_true, decide_eq_true_eq] at *
  omega
 ·intro h1 q hq
  have := pointsF_box (lo := (0, 0)) (hi := (w - 1, h - 1)) (fun q hq => by
   have g1 := h1 q hq
   have g2 := hin q hq
   rw [in60_iff] at g2
   simp only [ptIn, Bool.and_eq_true, decide_eq_true_eq] at g1
   unfold InBox
   simp only
   omega) q hq
  unfold InBox at this
  simp only [ptIn2, Bool.and_eq_true, decide_eq_true_eq] at *
  omega
theorem pointsF_in60 {f : Ft} (hv : validF f = true) : ∀ p ∈ pointsF f, in60 p = true := by
 intro p hp
 obtain ⟨_, hin, _⟩ := valid_pts hv
 have := pointsF_box (lo := (0, 0)) (hi := (59, 59)) (fun q hq => by
  have g2 := hin q hq
  rw [in60_iff] at g2
  unfold InBox
  simp only
  omega) p hp
 unfold InBox at this
 rw [in60_iff]
 simp only at this
 omega
theorem pointsF_nodup {f : Ft} (hv : validF f = true) : (pointsF f).Nodup := by
 obtain ⟨⟨hn1, hn2⟩, hin, hk⟩ := valid_pts hv
 unfold pointsF
 split
 ·rename_i h1
  have hl : f.pts.length = 1 := by
   rw [kindOk, if_pos h1] at hk
   simp at hk
   exact hk.1
  obtain ⟨x, hx⟩ := List.length_eq_one_iff.1 hl
  rw [hx]
  simp
 ·split
  ·exact (sortedP_rows _).nodup
  ·exact (sortedP_rows _).nodup
theorem pointsF_len {f : Ft} (hv : validF f = true) : (pointsF f).length <= 3600 := by
 have := sub_len (pointsF_nodup hv) fun x hx => gridL_mem.2 (pointsF_in60 hv x hx)
 rw [<- gridN_all, gridN_len] at this
 omega
set_option maxHeartbeats 4000000 in
theorem d_rapvalid {p : Pic} (hF : Fine p) : DK 29 [picD p] fun d => d = .bool (validPic p) := by
 refine dfn_ok cp29 rfl GHro fun Z0 lo => ?_
 refine goD ?_; intros
 refine ds_if rfl (fun ht => ?_) (fun ht => ?_)
 ·rw [itOr, itOr, itOr, itOr, itOr, itOr, itOr, itOr, itOr] at ht
  simp only [bne0, Bool.or_eq_true, decide_eq_true_eq, Bool.not_eq_true', decide_eq_false_iff_not] at ht
  refine goD ?_; intros
  refine ds_ret ⟨_, rfl, rfl, ?_⟩
  have hb : (headOk p && gapOk p) = false := by
   rw [Bool.eq_false_iff]
   intro h2
   simp only [headOk, gapOk, Bool.and_eq_true, decide_eq_true_eq] at h2
   omega
  rw [validPic, hb]
  rfl
 ·rw [itOr, itOr, itOr, itOr, itOr, itOr, itOr, itOr, itOr] at ht
  simp only [bne0, Bool.or_eq_false_iff, decide_eq_false_iff_not, Bool.not_eq_false', decide_eq_true_eq] at ht
  have hh : headOk p = true := by simp only [headOk, Bool.and_eq_true, decide_eq_true_eq]; omega
  have hg : gapOk p = true := by simp only [gapOk, Bool.and_eq_true, decide_eq_true_eq]; omega
  have hv : validPic p = p.fs.all (ftOk p) := by rw [validPic, hh, hg]; rfl
  rw [hv]
  refine goD ?_; intros
  refine ds_loop (fun m E S nk => ∃ i : Nat, i + m = p.fs.length /\ (∀ (j : Nat) f, j < i -> p.fs[j]? = some f -> ftOk p f = true) /\ E = [(1, .one (.ptr 0 0)), (3, .int i)] /\ S = [(0, .cells (picC p))] /\ nk = 1)
    ⟨p.fs.length, _, _, _, [], ?wk, 0, oM, fun j q hj => oM, rfl, rfl, rfl⟩ ?_
  case wk => exact wkA
  rintro m E S nk ⟨i, hi, hok, rfl, rfl, rfl⟩
  refine goD ?_; intros
  refine ds_if rfl (fun hi2 => ?_) (fun hi2 => ?_)
  ·have hi2 : i < p.fs.length := by have := of_decide_eq_true hi2; omega
   obtain ⟨f, hf⟩ : ∃ f, p.fs[i]? = some f := ⟨_, List.getElem?_eq_getElem hi2⟩
   have e1 := ftF_at hf
   have hfl := hF.2 f (List.mem_of_getElem? hf)
   refine goD ?_; intros
   refine dw_cf rfl rfl (d_rvalid hfl) ?_
   rintro _ rfl
   cases hv1 : validF f with
   | false =>
    refine goD ?_; intros
    refine ds_if rfl (fun _ => ?_) (fun ht => by cases ht)
    refine goD ?_; intros
    refine ds_ret ⟨_, rfl, rfl, ?_⟩
    rw [all_bad hf (by rw [ftOk, hv1]; rfl)]
   | true =>
    refine goD ?_; intros
    refine dw_cf rfl rfl (d_rpoints hv1) ?_
    rintro _ rfl
    refine goD ?_; intros
    refine dw_cf rfl rfl (d_rinside31 (by have := pointsF_len hv1; omega)) ?_
    rintro _ rfl
    rw [inside_eq hv1]
    refine goD ?_; intros
    refine ds_if rfl (fun hb => ?_) (fun hb => ?_)
    ·have hb : f.pts.all (ptIn p.w p.h) = false := by simpa using hb
     refine goD ?_; intros
     refine ds_ret ⟨_, rfl, rfl, ?_⟩
     rw [all_bad hf (by rw [ftOk, hb, Bool.and_false])]
    ·have hb : f.pts.all (ptIn p.w p.h) = true := by simpa using hb
     refine goD ?_; intros
     refine ⟨m - 1, oM, _, _, _, [], ?wk4, i + 1, oM, ?hno2, rfl, rfl, rfl⟩
     case hno2 =>
      intro k f' hk hf'
      by_cases hki : k = i
      ·subst hki; rw [hf] at hf'; rw [<- Option.some.inj hf', ftOk, hv1, hb]; rfl
      ·exact hok k f' oM hf'
     case wk4 => exact wkA
  ·have hi2 : i = p.fs.length := by have := of_decide_eq_false hi2; omega
   subst hi2
   refine goD ?_; intros
   refine ds_ret ⟨_, rfl, rfl, ?_⟩
   rw [all_good hok]
def ptsOf (p : Pic) : List (List Pt2) := p.fs.map pointsF
theorem ptsOf_take {p : Pic} {i : Nat} {f : Ft} (h : p.fs[i]? = some f) : (p.fs.take (i + 1)).map pointsF = (p.fs.take i).map pointsF ++ [pointsF f] := by
 rw [List.take_add_one, h]
 simp
theorem d_rppoints {p : Pic} (hv : ∀ f ∈ p.fs, validF f = true) (hn : p.fs.length < 1000) : DK 21 [picD p] fun d => d = ptssD (ptsOf p) := by
 refine dfn_ok cp21 rfl GHro fun Z0 lo => ?_
 refine goD ?_; intros
 refine ds_loop (fun m E S nk => ∃ (i : Nat) (out : List (List Pt2)), i + m = p.fs.length /\ out = (p.fs.take i).map pointsF /\ E = [(1, .one (.ptr 0 0)), (3, .one (.own 1 0 out.length 1)), (4, .int i)] /\ S = [(0, .cells (picC p)), (1, .data (out.map ptsF))] /\ nk = 2)
  ⟨p.fs.length, _, _, _, [], ?wk, 0, [], oM, rfl, rfl, rfl, rfl⟩ ?_
 case wk => exact wkA
 rintro m E S nk ⟨i, out, hi, ho, rfl, rfl, rfl⟩
 refine goD ?_; intros
 refine ds_if rfl (fun hi2 => ?_) (fun hi2 => ?_)
 ·have hi2 : i < p.fs.length := by have := of_decide_eq_true hi2; omega
  obtain ⟨f, hf⟩ : ∃ f, p.fs[i]? = some f := ⟨_, List.getElem?_eq_getElem hi2⟩
  have e1 := ftF_at hf
  have hol : out.length = i := by rw [ho, List.length_map, List.length_take]; omega
  refine goD ?_; intros
  refine dw_cf rfl rfl (d_rpoints (hv f (List.mem_of_getElem? hf))) ?_
  rintro _ rfl
  refine goD ?_; intros
  refine dw_app (m := 1) (q := [ptsF (pointsF f)]) rfl rfl rfl (subL_all _ (by rw [List.length_map]; omega)) ⟨rfl, rfl, _, rfl, rfl⟩ (by omega) (by omega) (by decide) rfl ?_
  rw [show out.map ptsF ++ [ptsF (pointsF f)] = (out ++ [pointsF f]).map ptsF by simp, show out.length + 1 = (out ++ [pointsF f]).length by simp]
  refine goD ?_; intros
  refine ⟨m - 1, by omega, _, _, _, [(1, 3)], ?wk1, i + 1, out ++ [pointsF f], by omega, by rw [ho, ptsOf_take hf], rfl, rfl, rfl⟩
  case wk1 => exact wkA
 ·have hi2 : i = p.fs.length := by have := of_decide_eq_false hi2; omega
  subst hi2
  rw [List.take_length] at ho
  have hol : (out.map ptsF).length = out.length * 1 := by simp
  refine goD ?_; intros
  refine ds_keep (SubA.cons (k := 2) rfl (SubA.nil _)) (SubA.cons (k := 1) rfl (SubA.nil _)) ?_
  refine ds_frz 1 rfl okZ okZ ?_
  refine ds_ret ⟨_, rfl, rfl, ?_⟩
  rw [ptsOf, <- ho]
  rfl
def intsF (r : List Int) : FD := .sl 1 r.length (r.map iF)
def rowsD (R : List (List Int)) : DV := .one (.f (.sl 1 R.length (R.map intsF)))
theorem intsF_at {cs : List (List Int)} {i : Nat} {c : List Int} (h : cs[i]? = some c) : subL (cs.map intsF) (i * 1) 1 = some [intsF c] := by
 have hi : i < cs.length := (List.getElem?_eq_some_iff.1 h).1
 rw [subL_of (by simp; omega)]
 rw [Nat.mul_one, List.drop_eq_getElem_cons (by simpa using hi)]
 have : cs[i] = c := (List.getElem?_eq_some_iff.1 h).2
 simp [this]
def tbl (l : List (List Pt2)) : List (List Int) := l.map fun a => l.map fun b => dist a b
def distT (p : Pic) : List (List Int) := if validPic p = true then tbl (ptsOf p) else []
theorem validPic_fs {p : Pic} (h : validPic p = true) : (1 <= p.fs.length /\ p.fs.length <= 8) /\ (∀ f ∈ p.fs, ftOk p f = true) /\ headOk p = true /\ gapOk p = true := by
 simp only [validPic, Bool.and_eq_true, List.all_eq_true] at h
 obtain ⟨⟨h1, h2⟩, h3⟩ := h
 refine ⟨?_, h3, h1, h2⟩
 simp only [gapOk, Bool.and_eq_true, decide_eq_true_eq] at h2
 exact h2.2
theorem validPic_v {p : Pic} (h : validPic p = true) : ∀ f ∈ p.fs, validF f = true := fun f hf => by
 have := (validPic_fs h).2.1 f hf
 rw [ftOk, Bool.and_eq_true] at this
 exact this.1
theorem ptsOf_small {p : Pic} (h : validPic p = true) : ∀ l ∈ ptsOf p, (∀ q ∈ l, in60 q = true) /\ l.length <= 3600 := fun l hl => by
 obtain ⟨f, hf, rfl⟩ := List.mem_map.1 hl
 exact ⟨pointsF_in60 (validPic_v h f hf), pointsF_len (validPic_v h f hf)⟩
theorem smalls60 {l : List Pt2} (h : ∀ q ∈ l, in60 q = true) : Smalls l := fun q hq => by
 have := h q hq
 rw [in60_iff] at this
 unfold Small
 omega
set_option maxHeartbeats 4000000 in
theorem d_rdistances {p : Pic} (hF : Fine p) : DK 36 [picD p] fun d => d = rowsD (distT p) := by
 refine dfn_ok cp36 rfl GHro fun Z0 lo => ?_
 refine goD ?_; intros
 refine dw_cf rfl rfl (d_rapvalid hF) ?_
 rintro _ rfl
 refine goD ?_; intros
 refine ds_if rfl (fun hv => ?_) (fun hv => ?_)
 ·have hv : ¬ validPic p = true := by simpa using hv
  refine goD ?_; intros
  refine ds_nil 2 1 rfl ?_
  refine ds_ret ⟨_, rfl, rfl, ?_⟩
  rw [distT, if_neg hv]
  rfl
 ·have hv : validPic p = true := by simpa using hv
  have hT : distT p = tbl (ptsOf p) := by rw [distT, if_pos hv]
  have hsm := ptsOf_small hv
  have hpl : (ptsOf p).length = p.fs.length := by simp [ptsOf]
  have hl8 := (validPic_fs hv).1
  generalize hl : ptsOf p = l at *
  refine goD ?_; intros
  refine dw_cf rfl rfl (d_rppoints (validPic_v hv) oM) ?_
  rintro _ rfl
  rw [hl]
  refine goD ?_; intros
  refine ds_loop (fun m E S nk => ∃ (i : Nat) (R : List (List Int)), i + m = l.length /\ R = (l.take i).map (fun a => l.map fun b => dist a b) /\ E = [(3, .one (.own 0 0 R.length 1)), (4, ptssD l), (5, .int i)] /\ S = [(0, .data (R.map intsF))] /\ nk = 1)
   ⟨l.length, _, _, _, [(0, 1)], ?wk, 0, [], oM, rfl, rfl, rfl, rfl⟩ ?_
  case wk => exact wkA
  rintro m E S nk ⟨i, R, hi, hR, rfl, rfl, rfl⟩
  refine goD ?_; intros
  refine ds_if rfl (fun hi2 => ?_) (fun hi2 => ?_)
  ·have hi2 : i < l.length := by have := of_decide_eq_true hi2; omega
   obtain ⟨a, ha⟩ : ∃ r, l[i]? = some r := ⟨_, List.getElem?_eq_getElem hi2⟩
   have e1 := ptsF_at ha
   have hRl : R.length = i := by rw [hR, List.length_map, List.length_take]; omega
   refine goD ?_; intros
   refine ds_loop (fun m E S nk => ∃ (k : Nat) (r : List Int), k + m = l.length /\ r = (l.take k).map (dist a) /\ E = [(3, .one (.own 0 0 R.length 1)), (4, ptssD l), (5, .int i), (6, .one (.own 1 0 r.length 1)), (7, .int k)] /\ S = [(0, .data (R.map intsF)), (1, .data (r.map iF))] /\ nk = 2)
    ⟨l.length, _, _, _, [], ?wk2, 0, [], oM, rfl, rfl, rfl, rfl⟩ ?_
   case wk2 => exact wkA
   rintro m2 E S nk ⟨k, r, hk, hr, rfl, rfl, rfl⟩
   refine goD ?_; intros
   refine ds_if rfl (fun hk2 => ?_) (fun hk2 => ?_)
   ·have hk2 : k < l.length := by have := of_decide_eq_true hk2; omega
    obtain ⟨b, hb⟩ : ∃ r, l[k]? = some r := ⟨_, List.getElem?_eq_getElem hk2⟩
    have e2 := ptsF_at hb
    have hrl : r.length = k := by rw [hr, List.length_map, List.length_take]; omega
    have hsa := hsm a (List.mem_of_getElem? ha)
    have hsb := hsm b (List.mem_of_getElem? hb)
    refine goD ?_; intros
    refine dw_cf rfl rfl (d_rdistance (smalls60 hsa.1) (smalls60 hsb.1) oM oM) ?_
    rintro _ rfl
    refine goD ?_; intros
    refine dw_app (m := 1) (q := [iF (dist a b)]) rfl rfl rfl (subL_all _ (by rw [List.length_map]; omega)) ⟨rfl, rfl, _, rfl, rfl⟩ (by omega) (by omega) (by decide) rfl ?_
    rw [show r.map iF ++ [iF (dist a b)] = (r ++ [dist a b]).map iF by simp, show r.length + 1 = (r ++ [dist a b]).length by simp]
    refine goD ?_; intros
    refine ⟨m2 - 1, by omega, _, _, _, [(1, 3)], ?wk3, k + 1, r ++ [dist a b], by omega, by rw [List.take_add_one, hb, hr]; simp, rfl, rfl, rfl⟩
    case wk3 => exact wkA
   ·have hk2 : k = l.length := by have := of_decide_eq_false hk2; omega
    subst hk2
    have hrl : (r.map iF).length = r.length * 1 := by simp
    rw [List.take_length] at hr
    refine ds_keep (SubA.cons (k := 3) rfl (SubA.cons (k := 4) rfl (SubA.cons (k := 5) rfl (SubA.cons (k := 6) rfl (SubA.nil _))))) (SubA.cons (k := 0) rfl (SubA.cons (k := 1) rfl (SubA.nil _))) ?_
    refine ds_frz 1 rfl okZ okZ ?_
    refine goD ?_; intros
    refine dw_app (m := 1) (q := [intsF r]) rfl rfl rfl (subL_all _ (by rw [List.length_map]; omega)) ⟨rfl, rfl, _, rfl, rfl⟩ (by omega) (by omega) (by decide) rfl ?_
    rw [show R.map intsF ++ [intsF r] = (R ++ [r]).map intsF by simp, show R.length + 1 = (R ++ [r]).length by simp]
    refine goD ?_; intros
    refine ⟨m - 1, by omega, _, _, _, [(0, 3)], ?wk4, i + 1, R ++ [r], by omega, by rw [List.take_add_one, ha, hR, hr]; simp, rfl, rfl, rfl⟩
    case wk4 => exact wkA
  ·have hi2 : i = l.length := by have := of_decide_eq_false hi2; omega
   subst hi2
   rw [List.take_length] at hR
   have hRl : (R.map intsF).length = R.length * 1 := by simp
   refine goD ?_; intros
   refine ds_keep (SubA.cons (k := 2) rfl (SubA.nil _)) (SubA.cons (k := 0) rfl (SubA.nil _)) ?_
   refine ds_frz 0 rfl okZ okZ ?_
   refine ds_ret ⟨_, rfl, rfl, ?_⟩
   rw [hT, tbl, <- hR]
   rfl
open Classical in
noncomputable def cl1 (g : Int) (l : List Pt2) : Bool := decide (∃ cs, ClS g (sortedP l) cs /\ cs.length = 1)
open Classical in
theorem cl1_of {g : Int} {l : List Pt2} {cs : List (List Pt2)} (h : ClS g (sortedP l) cs) : cl1 g l = decide (cs.length = 1) := by
 unfold cl1
 by_cases h1 : cs.length = 1
 ·rw [decide_eq_true h1]
  exact decide_eq_true ⟨cs, h, h1⟩
 ·rw [decide_eq_false h1]
  exact decide_eq_false fun ⟨cs', h', h2⟩ => h1 (by rw [h.uniq h']; exact h2)
def Bad1 (g : Int) (l : List (List Pt2)) (i : Nat) : Prop := (∃ a, l[i]? = some a /\ cl1 g a = false) /\ ∀ (j : Nat) b, j < i -> l[j]? = some b -> cl1 g b = true
def Bad2 (g : Int) (l : List (List Pt2)) (i k : Nat) : Prop := (∃ a b, i < k /\ l[i]? = some a /\ l[k]? = some b /\ dist a b <= g) /\ ∀ (i' k' : Nat) a b, i' < k' -> (i' < i \/ (i' = i /\ k' < k)) -> l[i']? = some a -> l[k']? = some b -> ¬ dist a b <= g
def Good1 (g : Int) (l : List (List Pt2)) : Prop := ∀ a ∈ l, cl1 g a = true
def Good2 (g : Int) (l : List (List Pt2)) : Prop := ∀ (i k : Nat) a b, i < k -> l[i]? = some a -> l[k]? = some b -> ¬ dist a b <= g
abbrev Res := Int × Int × Int
inductive Chk (p : Pic) : Res -> Prop
 | arg (h : ¬ validPic p = true) : Chk p (0, 0, 1)
 | bad1 (i : Nat) (h : validPic p = true) (hb : Bad1 p.gap (ptsOf p) i) : Chk p ((i : Int), (i : Int), 130)
 | bad2 (i k : Nat) (h : validPic p = true) (hg : Good1 p.gap (ptsOf p)) (hb : Bad2 p.gap (ptsOf p) i k) : Chk p ((i : Int), (k : Int), 140)
 | ok (h : validPic p = true) (hg : Good1 p.gap (ptsOf p)) (hb : Good2 p.gap (ptsOf p)) : Chk p (0, 0, 0)
theorem Bad1.not {g : Int} {l : List (List Pt2)} {i : Nat} (h : Bad1 g l i) (hg : Good1 g l) : False := by
 obtain ⟨⟨a, ha, hb⟩, _⟩ := h
 rw [hg a (List.mem_of_getElem? ha)] at hb
 cases hb
theorem Bad2.not {g : Int} {l : List (List Pt2)} {i k : Nat} (h : Bad2 g l i k) (hg : Good2 g l) : False := by
 obtain ⟨⟨a, b, h1, h2, h3, h4⟩, _⟩ := h
 exact hg i k a b h1 h2 h3 h4
def resD (r : Res) : DV := .agg [.f (.c (.int .i64 r.1)), .f (.c (.int .i64 r.2.1)), .f (.c (.int .i64 r.2.2))]
theorem tbl_at {l : List (List Pt2)} {i : Nat} {a : List Pt2} (h : l[i]? = some a) : (tbl l)[i]? = some (l.map (dist a)) := by
 simp [tbl, h]
set_option maxHeartbeats 4000000 in
theorem d_rcheck {p : Pic} (hF : Fine p) : DK 20 [picD p] fun d => ∃ r, Chk p r /\ d = resD r := by
 refine dfn_ok cp20 rfl GHro fun Z0 lo => ?_
 refine goD ?_; intros
 refine dw_cf rfl rfl (d_rapvalid hF) ?_
 rintro _ rfl
 refine goD ?_; intros
 refine ds_if rfl (fun hv => ?_) (fun hv => ?_)
 ·have hv : ¬ validPic p = true := by simpa using hv
  refine goD ?_; intros
  exact ds_ret ⟨_, rfl, rfl, _, .arg hv, rfl⟩
 ·have hv : validPic p = true := by simpa using hv
  have hT : distT p = tbl (ptsOf p) := by rw [distT, if_pos hv]
  have hsm := ptsOf_small hv
  have hpl : (ptsOf p).length = p.fs.length := by simp [ptsOf]
  have hl8 := (validPic_fs hv).1
  generalize hl : ptsOf p = l at *
  refine goD ?_; intros
  refine dw_cf rfl rfl (d_rppoints (validPic_v hv) oM) ?_
  rintro _ rfl
  rw [hl]
  refine goD ?_; intros
  refine dw_cf rfl rfl (d_rdistances hF) ?_
  rintro _ rfl
  rw [hT]
  refine goD ?_; intros
  refine ds_loop (fun m E S nk => ∃ i : Nat, i + m = l.length /\ (∀ (j : Nat) b, j < i -> l[j]? = some b -> cl1 p.gap b = true) /\ E = [(1, .one (.ptr 0 0)), (2, .one (.ptr 1 0)), (3, ptssD l), (4, rowsD (tbl l)), (5, .int i)] /\ S = [(0, .cells (picC p)), (1, .cells [.f (.c (.int .i64 0)), .f (.c (.int .i64 0)), .f (.c (.int .i64 0))])] /\ nk = 2)
   ⟨l.length, _, _, _, [], ?wk, 0, oM, fun j b hj => oM, rfl, rfl, rfl⟩ ?_
  case wk => exact wkA
  rintro m E S nk ⟨i, hi, hok, rfl, rfl, rfl⟩
  refine goD ?_; intros
  refine ds_if rfl (fun hi2 => ?_) (fun hi2 => ?_)
  ·have hi2 : i < l.length := by have := of_decide_eq_true hi2; omega
   obtain ⟨a, ha⟩ : ∃ r, l[i]? = some r := ⟨_, List.getElem?_eq_getElem hi2⟩
   have e1 := ptsF_at ha
   have hsa := hsm a (List.mem_of_getElem? ha)
   refine goD ?_; intros
   refine dw_cf rfl rfl (d_rclusters (smalls60 hsa.1) oM) ?_
   rintro _ ⟨cs, rfl, hcs⟩
   have hc1 := cl1_of hcs
   refine goD ?_; intros
   refine ds_if rfl (fun hb => ?_) (fun hb => ?_)
   ·have hb : ¬ (cs.length : Int) = 1 := bne_true' hb
    refine goD ?_; intros
    exact ds_ret ⟨_, rfl, rfl, _, .bad1 i hv (by rw [hl]; exact ⟨⟨a, ha, by rw [hc1]; exact decide_eq_false (by omega)⟩, hok⟩), rfl⟩
   ·have hb : (cs.length : Int) = 1 := bne_false' hb
    refine goD ?_; intros
    refine ⟨m - 1, oM, _, _, _, [], ?wk1, i + 1, oM, ?hno, rfl, rfl, rfl⟩
    case hno =>
     intro j b hj hbj
     by_cases hji : j = i
     ·subst hji
      rw [ha] at hbj
      rw [<- Option.some.inj hbj, hc1]
      exact decide_eq_true oM
     ·exact hok j b oM hbj
    case wk1 => exact wkA
  ·have hi2 : i = l.length := by have := of_decide_eq_false hi2; omega
   subst hi2
   have hg1 : Good1 p.gap (ptsOf p) := fun a ha => by
    rw [hl] at ha
    obtain ⟨j, hj⟩ := List.getElem?_of_mem ha
    exact hok j a (List.getElem?_eq_some_iff.1 hj).1 hj
   refine goD ?_; intros
   refine ds_loop (fun m E S nk => ∃ i : Nat, i + m = l.length /\ (∀ (i' k' : Nat) a b, i' < k' -> i' < i -> l[i']? = some a -> l[k']? = some b -> ¬ dist a b <= p.gap) /\ E = [(1, .one (.ptr 0 0)), (2, .one (.ptr 1 0)), (3, ptssD l), (4, rowsD (tbl l)), (6, .int i)] /\ S = [(0, .cells (picC p)), (1, .cells [.f (.c (.int .i64 0)), .f (.c (.int .i64 0)), .f (.c (.int .i64 0))])] /\ nk = 2)
    ⟨l.length, _, _, _, [], ?wk2, 0, oM, fun i' k' a b _ h => oM, rfl, rfl, rfl⟩ ?_
   case wk2 => exact wkA
   rintro m2 E S nk ⟨i, hi3, hok2, rfl, rfl, rfl⟩
   refine goD ?_; intros
   refine ds_if rfl (fun hi4 => ?_) (fun hi4 => ?_)
   ·have hi4 : i < l.length := by have := of_decide_eq_true hi4; omega
    obtain ⟨a, ha⟩ : ∃ r, l[i]? = some r := ⟨_, List.getElem?_eq_getElem hi4⟩
    have e1 := intsF_at (tbl_at ha)
    refine goD ?_; intros
    refine ds_loop (fun m E S nk => ∃ k : Nat, k + m = l.length /\ i < k /\ (∀ (k' : Nat) b, i < k' -> k' < k -> l[k']? = some b -> ¬ dist a b <= p.gap) /\ E = [(1, .one (.ptr 0 0)), (2, .one (.ptr 1 0)), (3, ptssD l), (4, rowsD (tbl l)), (6, .int i), (7, .int k)] /\ S = [(0, .cells (picC p)), (1, .cells [.f (.c (.int .i64 0)), .f (.c (.int .i64 0)), .f (.c (.int .i64 0))])] /\ nk = 2)
     ⟨l.length - (i + 1), _, _, _, [], ?wk3, i + 1, oM, oM, fun k' b _ h => oM, rfl, rfl, rfl⟩ ?_
    case wk3 => exact wkA
    rintro m3 E S nk ⟨k, hk, hik, hok3, rfl, rfl, rfl⟩
    refine goD ?_; intros
    refine ds_if rfl (fun hk2 => ?_) (fun hk2 => ?_)
    ·have hk2 : k < l.length := by have := of_decide_eq_true hk2; omega
     obtain ⟨b, hb⟩ : ∃ r, l[k]? = some r := ⟨_, List.getElem?_eq_getElem hk2⟩
     have e2 := iF_at (show (l.map (dist a))[k]? = some (dist a b) by simp [hb])
     have hml : (l.map (dist a)).length = l.length := List.length_map _
     have htl : (tbl l).length = l.length := by simp [tbl]
     have hi5 : i < (tbl l).length := by omega
     refine goD ?_; intros
     refine ds_if rfl (fun hd => ?_) (fun hd => ?_)
     ·have hd := of_decide_eq_true hd
      refine goD ?_; intros
      refine ds_ret ⟨_, rfl, rfl, _, .bad2 i k hv hg1 ?_, rfl⟩
      rw [hl]
      refine ⟨⟨a, b, hik, ha, hb, hd⟩, fun i' k' a' b' h1 h2 h3 h4 => ?_⟩
      rcases h2 with h2|⟨rfl, h2⟩
      ·exact hok2 i' k' a' b' h1 h2 h3 h4
      ·rw [ha] at h3
       rw [<- Option.some.inj h3]
       exact hok3 k' b' h1 h2 h4
     ·have hd := of_decide_eq_false hd
      refine goD ?_; intros
      refine ⟨m3 - 1, oM, _, _, _, [], ?wk4, k + 1, oM, oM, ?hno2, rfl, rfl, rfl⟩
      case hno2 =>
       intro k' b' h1 h2 h3
       by_cases hkk : k' = k
       ·subst hkk
        rw [hb] at h3
        rw [<- Option.some.inj h3]
        exact hd
       ·exact hok3 k' b' h1 oM h3
      case wk4 => exact wkA
    ·have hk2 : k = l.length := by have := of_decide_eq_false hk2; omega
     refine goD ?_; intros
     refine ⟨m2 - 1, oM, _, _, _, [], ?wk5, i + 1, oM, ?hno3, rfl, rfl, rfl⟩
     case hno3 =>
      intro i' k' a' b' h1 h2 h3 h4
      by_cases hii : i' = i
      ·subst hii
       rw [ha] at h3
       rw [<- Option.some.inj h3]
       exact hok3 k' b' h1 (by have := (List.getElem?_eq_some_iff.1 h4).1; omega) h4
      ·exact hok2 i' k' a' b' h1 oM h3 h4
     case wk5 => exact wkA
   ·have hi4 : i = l.length := by have := of_decide_eq_false hi4; omega
    subst hi4
    refine goD ?_; intros
    refine ds_ret ⟨_, rfl, rfl, _, .ok hv hg1 ?_, rfl⟩
    rw [hl]
    exact fun i k a b h1 h2 h3 => hok2 i k a b h1 (List.getElem?_eq_some_iff.1 h2).1 h2 h3
theorem lblP_small {i : Nat} {q : Pt2} (hq : Small 1000000 q) : Smalls (lblP i q) := fun x hx => by
 unfold lblP lbl at hx
 obtain ⟨k, hk, rfl⟩ := List.mem_map.1 hx
 have := List.mem_range.1 (List.mem_filter.1 hk).1
 unfold Small at *
 simp only [lbQ]
 omega
theorem lblP_len (i : Nat) (q : Pt2) : (lblP i q).length <= 12 := lbl_len _ _ _
def fitsH (p : Pic) (q : Pt2) : Bool := ((decide (0 <= q.1) && decide (0 <= q.2)) && (decide (q.1 <= 60) && decide (q.2 <= 60))) && (decide (2 * (q.1 + 2) <= p.w) && decide (3 * (q.2 + 1) <= p.h))
def farL (g : Int) (d l : List Pt2) : Bool := !decide (dist d l <= g)
def fitsP (p : Pic) (i : Nat) (q : Pt2) : Bool := fitsH p q && ((ptsOf p).all (farL p.gap (lblP i q)) && decide (dist (lblP i q) (((ptsOf p)[i]?).getD []) <= 3 * p.gap))
set_option maxHeartbeats 4000000 in
theorem d_fits {p : Pic} {i : Nat} {q : Pt2} (hv : validPic p = true) (hi : i < p.fs.length) (hq : Small 1000000 q) : DK 40 [picD p, .int i, ptD q] fun d => d = .bool (fitsP p i q) := by
 refine dfn_ok cp40 rfl GHro fun Z0 lo => ?_
 have hl8 := (validPic_fs hv).1
 have hgap : 2 <= p.gap /\ p.gap <= 6 := by
  have := (validPic_fs hv).2.2.2
  simp only [gapOk, Bool.and_eq_true, decide_eq_true_eq] at this
  exact this.1
 have hds := lblP_small (i := i) hq
 have hdl := lblP_len i q
 have hsm := ptsOf_small hv
 have hpl : (ptsOf p).length = p.fs.length := by simp [ptsOf]
 have hrp := d_rppoints (validPic_v hv) oM
 have hlp := d_rlpoints (i := i) (q := q) oM hq
 unfold Small at hq
 have w1 : IntKind.i64.wrap (q.1 + 2) = q.1 + 2 := dwrap oM oM
 have w2 : IntKind.i64.wrap (2 * (q.1 + 2)) = 2 * (q.1 + 2) := dwrap oM oM
 have w3 : IntKind.i64.wrap (q.2 + 1) = q.2 + 1 := dwrap oM oM
 have w4 : IntKind.i64.wrap (3 * (q.2 + 1)) = 3 * (q.2 + 1) := dwrap oM oM
 have w5 : IntKind.i64.wrap (3 * p.gap) = 3 * p.gap := dwrap oM oM
 refine goD ?_; intros
 refine ds_if rfl (fun ht => ?_) (fun ht => ?_)
 ·rw [itOr, itOr, itOr, itOr, itOr, w1, w2, w3, w4] at ht
  simp only [Bool.or_eq_true, decide_eq_true_eq] at ht
  have hb : fitsH p q = false := by
   rw [Bool.eq_false_iff]
   intro h2
   simp only [fitsH, Bool.and_eq_true, decide_eq_true_eq] at h2
   omega
  refine goD ?_; intros
  refine ds_ret ⟨_, rfl, rfl, ?_⟩
  rw [fitsP, hb, Bool.false_and]
 ·rw [itOr, itOr, itOr, itOr, itOr, w1, w2, w3, w4] at ht
  simp only [Bool.or_eq_false_iff, decide_eq_false_iff_not] at ht
  have hb : fitsH p q = true := by
   simp only [fitsH, Bool.and_eq_true, decide_eq_true_eq]
   omega
  have hfit : fitsP p i q = ((ptsOf p).all (farL p.gap (lblP i q)) && decide (dist (lblP i q) (((ptsOf p)[i]?).getD []) <= 3 * p.gap)) := by rw [fitsP, hb, Bool.true_and]
  rw [hfit]
  clear hfit ht
  generalize ptsOf p = l at *
  refine goD ?_; intros
  refine dw_cf rfl rfl hrp ?_
  rintro _ rfl
  refine dw_cf rfl rfl hlp ?_
  rintro _ rfl
  generalize lblP i q = dd at *
  refine goD ?_; intros
  refine ds_loop (fun m E S nk => ∃ k : Nat, k + m = l.length /\ (∀ (j : Nat) a, j < k -> l[j]? = some a -> farL p.gap dd a = true) /\ E = [(1, .int i), (3, .one (.ptr 0 0)), (5, .one (.ptr 1 0)), (7, ptssD l), (8, ptsD dd), (9, .int k)] /\ S = [(0, .cells (picC p)), (1, .cells [.f (.c (.int .i64 q.1)), .f (.c (.int .i64 q.2))])] /\ nk = 2)
   ⟨l.length, _, _, _, [], ?wk, 0, oM, fun j a hj => oM, rfl, rfl, rfl⟩ ?_
  case wk => exact wkA
  rintro m E S nk ⟨k, hk, hok, rfl, rfl, rfl⟩
  refine goD ?_; intros
  refine ds_if rfl (fun hk2 => ?_) (fun hk2 => ?_)
  ·have hk2 : k < l.length := by have := of_decide_eq_true hk2; omega
   obtain ⟨a, ha⟩ : ∃ r, l[k]? = some r := ⟨_, List.getElem?_eq_getElem hk2⟩
   have e1 := ptsF_at ha
   have hsa := hsm a (List.mem_of_getElem? ha)
   refine goD ?_; intros
   refine dw_cf rfl rfl (d_rdistance hds (smalls60 hsa.1) oM oM) ?_
   rintro _ rfl
   refine goD ?_; intros
   refine ds_if rfl (fun hd => ?_) (fun hd => ?_)
   ·refine goD ?_; intros
    refine ds_ret ⟨_, rfl, rfl, ?_⟩
    rw [all_bad ha (by rw [farL, hd]; rfl), Bool.false_and]
   ·refine goD ?_; intros
    refine ⟨m - 1, oM, _, _, _, [], ?wk1, k + 1, oM, ?hno, rfl, rfl, rfl⟩
    case hno =>
     intro j b hj hb
     by_cases hjk : j = k
     ·subst hjk; rw [ha] at hb; rw [<- Option.some.inj hb, farL, hd]; rfl
     ·exact hok j b oM hb
    case wk1 => exact wkA
  ·have hk2 : k = l.length := by have := of_decide_eq_false hk2; omega
   subst hk2
   obtain ⟨a, ha⟩ : ∃ r, l[i]? = some r := ⟨_, List.getElem?_eq_getElem oM⟩
   have e1 := ptsF_at ha
   have hsa := hsm a (List.mem_of_getElem? ha)
   rw [all_good hok, Bool.true_and, ha]
   refine goD ?_; intros
   rw [w5]
   refine dw_cf rfl rfl (d_rdistance hds (smalls60 hsa.1) oM oM) ?_
   rintro _ rfl
   refine goD ?_; intros
   exact ds_ret ⟨_, rfl, rfl, rfl⟩
def clashP (g : Int) (i : Nat) (a : Pt2) (k : Nat) (b : Pt2) : Bool := decide (dist (lblP i a) (lblP k b) <= g)
def legal1 (p : Pic) (l : List Pt2) (i : Nat) : Bool := fitsP p i (at0 l i) && (List.range i).all fun k => !clashP p.gap i (at0 l i) k (at0 l k)
def legalF (p : Pic) (l : List Pt2) : Bool := decide (l.length <= p.fs.length) && (List.range l.length).all (legal1 p l)
theorem range_bad {f : Nat -> Bool} {n i : Nat} (hi : i < n) (h : f i = false) : (List.range n).all f = false := by
 rw [List.all_eq_false]
 exact ⟨i, List.mem_range.2 hi, by rw [h]; decide⟩
theorem range_good {f : Nat -> Bool} {n : Nat} (h : ∀ i, i < n -> f i = true) : (List.range n).all f = true := by
 rw [List.all_eq_true]
 exact fun i hi => h i (List.mem_range.1 hi)
set_option maxHeartbeats 4000000 in
theorem d_legalFor {p : Pic} {l : List Pt2} (hv : validPic p = true) (hl : ∀ q ∈ l, Small 1000000 q) : DK 25 [picD p, ptsD l] fun d => d = .bool (legalF p l) := by
 refine dfn_ok cp25 rfl GHro fun Z0 lo => ?_
 have hl8 := (validPic_fs hv).1
 refine goD ?_; intros
 refine ds_if rfl (fun ht => ?_) (fun ht => ?_)
 ·have ht := of_decide_eq_true ht
  refine goD ?_; intros
  refine ds_ret ⟨_, rfl, rfl, ?_⟩
  rw [legalF, decide_eq_false (by omega), Bool.false_and]
 ·have ht := of_decide_eq_false ht
  have hln : l.length <= p.fs.length := by omega
  rw [legalF, decide_eq_true hln, Bool.true_and]
  refine goD ?_; intros
  refine ds_loop (fun m E S nk => ∃ i : Nat, i + m = l.length /\ (∀ j, j < i -> legal1 p l j = true) /\ E = [(1, ptsD l), (2, .one (.ptr 0 0)), (5, .int i)] /\ S = [(0, .cells (picC p))] /\ nk = 1)
   ⟨l.length, _, _, _, [], ?wk, 0, oM, fun j hj => oM, rfl, rfl, rfl⟩ ?_
  case wk => exact wkA
  rintro m E S nk ⟨i, hi, hok, rfl, rfl, rfl⟩
  refine goD ?_; intros
  refine ds_if rfl (fun hi2 => ?_) (fun hi2 => ?_)
  ·have hi2 : i < l.length := by have := of_decide_eq_true hi2; omega
   obtain ⟨q, hq⟩ : ∃ r, l[i]? = some r := ⟨_, List.getElem?_eq_getElem hi2⟩
   have e1 := ptF_at hq
   have hqs := hl q (List.mem_of_getElem? hq)
   have hqa := at0_of hq
   refine goD ?_; intros
   refine dw_cf rfl rfl (d_fits (i := i) (q := q) hv oM hqs) ?_
   rintro _ rfl
   refine goD ?_; intros
   refine ds_if rfl (fun hf => ?_) (fun hf => ?_)
   ·have hf : fitsP p i q = false := by simpa using hf
    refine goD ?_; intros
    refine ds_ret ⟨_, rfl, rfl, ?_⟩
    rw [range_bad hi2 (by rw [legal1, hqa, hf, Bool.false_and])]
   ·have hf : fitsP p i q = true := by simpa using hf
    refine goD ?_; intros
    refine ds_loop (fun m E S nk => ∃ k : Nat, k + m = i /\ (∀ j, j < k -> clashP p.gap i q j (at0 l j) = false) /\ E = [(1, ptsD l), (2, .one (.ptr 0 0)), (5, .int i), (6, .int k)] /\ S = [(0, .cells (picC p))] /\ nk = 1)
     ⟨i, _, _, _, [], ?wk2, 0, oM, fun j hj => oM, rfl, rfl, rfl⟩ ?_
    case wk2 => exact wkA
    rintro m2 E S nk ⟨k, hk, hok2, rfl, rfl, rfl⟩
    refine goD ?_; intros
    refine ds_if rfl (fun hk2 => ?_) (fun hk2 => ?_)
    ·have hk2 : k < i := by have := of_decide_eq_true hk2; omega
     obtain ⟨b, hb⟩ : ∃ r, l[k]? = some r := ⟨_, List.getElem?_eq_getElem oM⟩
     have e2 := ptF_at hb
     have hbs := hl b (List.mem_of_getElem? hb)
     have hba := at0_of hb
     have n1 := lblP_len i q
     have n2 := lblP_len k b
     refine goD ?_; intros
     refine dw_cf rfl rfl (d_rlpoints (i := i) (q := q) oM hqs) ?_
     rintro _ rfl
     refine dw_cf rfl rfl (d_rlpoints (i := k) (q := b) oM hbs) ?_
     rintro _ rfl
     refine dw_cf rfl rfl (d_rdistance (lblP_small hqs) (lblP_small hbs) oM oM) ?_
     rintro _ rfl
     refine goD ?_; intros
     refine ds_if rfl (fun hd => ?_) (fun hd => ?_)
     ·refine goD ?_; intros
      refine ds_ret ⟨_, rfl, rfl, ?_⟩
      rw [range_bad hi2 (by rw [legal1, hqa, range_bad hk2 (by rw [hba, clashP, hd]; rfl), Bool.and_false])]
     ·refine goD ?_; intros
      refine ⟨m2 - 1, oM, _, _, _, [], ?wk3, k + 1, oM, ?hno, rfl, rfl, rfl⟩
      case hno =>
       intro j hj
       by_cases hjk : j = k
       ·subst hjk; rw [hba]; exact hd
       ·exact hok2 j oM
      case wk3 => exact wkA
    ·have hk2 : k = i := by have := of_decide_eq_false hk2; omega
     subst hk2
     refine goD ?_; intros
     refine ⟨m - 1, oM, _, _, _, [], ?wk4, k + 1, oM, ?hno2, rfl, rfl, rfl⟩
     case hno2 =>
      intro j hj
      by_cases hjk : j = k
      ·subst hjk
       rw [legal1, hqa, hf, Bool.true_and]
       exact range_good fun x hx => by rw [hok2 x hx]; rfl
      ·exact hok j oM
     case wk4 => exact wkA
  ·have hi2 : i = l.length := by have := of_decide_eq_false hi2; omega
   subst hi2
   refine goD ?_; intros
   refine ds_ret ⟨_, rfl, rfl, ?_⟩
   rw [range_good hok]
def legalP (p : Pic) (l : List Pt2) : Bool := decide (l.length = p.fs.length) && legalF p l
theorem d_rlegal {p : Pic} {l : List Pt2} (hv : validPic p = true) (hl : ∀ q ∈ l, Small 1000000 q) : DK 18 [picD p, ptsD l] fun d => d = .bool (legalP p l) := by
 refine dfn_ok cp18 rfl GHro fun Z0 lo => ?_
 have hc := d_legalFor hv hl
 by_cases h : l.length = p.fs.length
 ·have b1 : ((l.length : Int) == (p.fs.length : Int)) = true := by rw [h]; simp
  refine goB ?_; intros
  refine dw_cf rfl rfl hc ?_
  rintro _ rfl
  refine goB ?_; intros
  refine ds_ret ⟨_, rfl, rfl, ?_⟩
  rw [legalP, decide_eq_true h, Bool.true_and]
 ·have b1 : ((l.length : Int) == (p.fs.length : Int)) = false := by
   have : ¬ (l.length : Int) = p.fs.length := by omega
   simpa using this
  refine goB ?_; intros
  refine ds_ret ⟨_, rfl, rfl, ?_⟩
  rw [legalP, decide_eq_false h, Bool.false_and]
def rowC (p : Pic) (i y n : Nat) : List Pt2 := ((List.range n).map fun x => (((x : Nat) : Int), ((y : Nat) : Int))).filter (fitsP p i)
def candN (p : Pic) (i w n : Nat) : List Pt2 := (List.range n).flatMap fun y => rowC p i y w
def candP (p : Pic) (i : Nat) : List Pt2 := candN p i ((p.w / 2).toNat - 1) (p.h / 3).toNat
theorem rowC_t {p : Pic} {i y n : Nat} (h : fitsP p i ((n : Int), (y : Int)) = true) : rowC p i y (n + 1) = rowC p i y n ++ [((n : Int), (y : Int))] := by
 simp [rowC, List.range_succ, h]
theorem rowC_f {p : Pic} {i y n : Nat} (h : fitsP p i ((n : Int), (y : Int)) = false) : rowC p i y (n + 1) = rowC p i y n := by
 simp [rowC, List.range_succ, h]
theorem candN_succ {p : Pic} {i w n : Nat} : candN p i w (n + 1) = candN p i w n ++ rowC p i n w := by
 simp [candN, List.range_succ]
theorem rowC_len (p : Pic) (i y n : Nat) : (rowC p i y n).length <= n := by
 unfold rowC
 exact Nat.le_trans (List.length_filter_le _ _) (by simp)
theorem candN_len (p : Pic) (i w : Nat) : ∀ n, (candN p i w n).length <= n * w
 | 0 => by simp [candN]
 | n + 1 => by
  have h1 := candN_len p i w n
  have h2 := rowC_len p i n w
  rw [candN_succ, List.length_append, Nat.add_mul]
  omega
set_option maxHeartbeats 4000000 in
theorem d_cands {p : Pic} {i : Nat} (hv : validPic p = true) (hi : i < p.fs.length) : DK 26 [picD p, .int i] fun d => d = ptsD (candP p i) := by
 refine dfn_ok cp26 rfl GHro fun Z0 lo => ?_
 have hh := (validPic_fs hv).2.2.1
 simp only [headOk, Bool.and_eq_true, decide_eq_true_eq] at hh
 obtain ⟨⟨⟨hw1, hw2⟩, hw3⟩, ⟨hh1, hh2⟩, hh3⟩ := hh
 rw [Int.tmod_eq_emod_of_nonneg (by omega)] at hw3 hh3
 obtain ⟨nw, hnw⟩ : ∃ nw : Nat, nw = (p.w / 2).toNat - 1 := ⟨_, rfl⟩
 obtain ⟨nh, hnh⟩ : ∃ nh : Nat, nh = (p.h / 3).toNat := ⟨_, rfl⟩
 have hw4 : p.w = 2 * ((nw : Int) + 1) := by omega
 have hh4 : p.h = 3 * (nh : Int) := by omega
 have hnw2 : nw < 30 := by omega
 have hnh2 : nh <= 20 := by omega
 refine goD ?_; intros
 refine ds_loop (fun m E S nk => ∃ (y : Nat) (out : List Pt2), y + m = nh /\ out = candN p i nw y /\ E = [(1, .int i), (2, .one (.ptr 0 0)), (5, .one (.own 1 0 out.length 2)), (6, .int y)] /\ S = [(0, .cells (picC p)), (1, .data (out.flatMap ptF))] /\ nk = 2)
  ⟨nh, _, _, _, [], ?wk, 0, [], oM, rfl, rfl, rfl, rfl⟩ ?_
 case wk => exact wkA
 rintro m E S nk ⟨y, out, hy, ho, rfl, rfl, rfl⟩
 have w1 : IntKind.i64.wrap ((y : Int) + 1) = (y : Int) + 1 := dwrap oM oM
 have w2 : IntKind.i64.wrap (3 * ((y : Int) + 1)) = 3 * ((y : Int) + 1) := dwrap oM oM
 refine goD ?_; intros
 refine ds_if rfl (fun ht => ?_) (fun ht => ?_)
 ·have ht := of_decide_eq_true ht
  rw [w1, w2] at ht
  have hy2 : y < nh := by omega
  have hcl := candN_len p i nw y
  have hcm : y * nw <= 20 * 30 := Nat.mul_le_mul oM oM
  refine goD ?_; intros
  refine ds_loop (fun m E S nk => ∃ (x : Nat) (o2 : List Pt2), x + m = nw /\ o2 = out ++ rowC p i y x /\ E = [(1, .int i), (2, .one (.ptr 0 0)), (5, .one (.own 1 0 o2.length 2)), (6, .int y), (7, .int x)] /\ S = [(0, .cells (picC p)), (1, .data (o2.flatMap ptF))] /\ nk = 2)
   ⟨nw, _, _, _, [], ?wk2, 0, out, by omega, by simp [rowC], rfl, rfl, rfl⟩ ?_
  case wk2 => exact wkA
  rintro m2 E S nk ⟨x, o2, hx, ho2, rfl, rfl, rfl⟩
  have w3 : IntKind.i64.wrap ((x : Int) + 2) = (x : Int) + 2 := dwrap oM oM
  have w4 : IntKind.i64.wrap (2 * ((x : Int) + 2)) = 2 * ((x : Int) + 2) := dwrap oM oM
  have hrl := rowC_len p i y x
  have hol : o2.length <= 1000 := by rw [ho2, List.length_append, ho]; omega
  have hfl := ptF_len o2
  refine goD ?_; intros
  refine ds_if rfl (fun ht2 => ?_) (fun ht2 => ?_)
  ·have ht2 := of_decide_eq_true ht2
   rw [w3, w4] at ht2
   have hx2 : x < nw := by omega
   refine goD ?_; intros
   refine dw_cf rfl rfl (d_fits (i := i) (q := ((x : Int), (y : Int))) hv hi (by unfold Small; simp only; omega)) ?_
   rintro _ rfl
   refine goD ?_; intros
   refine ds_if rfl (fun hf => ?_) (fun hf => ?_)
   ·refine goD ?_; intros
    refine dw_app (m := 1) (q := ptF ((x : Int), (y : Int))) rfl rfl rfl (subL_all _ hfl) ⟨rfl, rfl, _, rfl, rfl⟩ oM oM (by decide) rfl ?_
    rw [show o2.flatMap ptF ++ ptF ((x : Int), (y : Int)) = (o2 ++ [((x : Int), (y : Int))]).flatMap ptF by simp, show o2.length + 1 = (o2 ++ [((x : Int), (y : Int))]).length by simp]
    refine goD ?_; intros
    refine ⟨m2 - 1, by omega, _, _, _, [(1, 4)], ?wk3, x + 1, o2 ++ [((x : Int), (y : Int))], by omega, by rw [rowC_t hf, ho2, List.append_assoc], rfl, rfl, rfl⟩
    case wk3 => exact wkA
   ·refine goD ?_; intros
    refine ⟨m2 - 1, by omega, _, _, _, [], ?wk4, x + 1, o2, by omega, by rw [rowC_f hf, ho2], rfl, rfl, rfl⟩
    case wk4 => exact wkA
  ·have ht2 := of_decide_eq_false ht2
   rw [w3, w4] at ht2
   have hx2 : x = nw := by omega
   subst hx2
   refine goD ?_; intros
   refine ⟨m - 1, by omega, _, _, _, [], ?wk5, y + 1, o2, by omega, by rw [candN_succ, ho2, ho], rfl, rfl, rfl⟩
   case wk5 => exact wkA
 ·have ht := of_decide_eq_false ht
  rw [w1, w2] at ht
  have hy2 : y = nh := by omega
  subst hy2
  have hfl := ptF_len out
  refine goD ?_; intros
  refine ds_keep (SubA.cons (k := 4) rfl (SubA.nil _)) (SubA.cons (k := 1) rfl (SubA.nil _)) ?_
  refine ds_frz 1 rfl okZ okZ ?_
  refine ds_ret ⟨_, rfl, rfl, ?_⟩
  rw [candP, <- hnw, <- hnh, <- ho]
  rfl
end Go.Ae

namespace Go.Ae
open Go.Ab
theorem Conn.mono {g g' : Int} {l l' : List Pt2} {p x : Pt2} (h : Conn g l p x) (hg : g <= g') (hl : ∀ y ∈ l, y ∈ l') : Conn g' l' p x := by
 induction h with
 | base h => exact .base (hl _ h)
 | step _ h2 h3 ih => exact .step ih (hl _ h2) oM
theorem Conn.trans {g : Int} {l : List Pt2} {p x y : Pt2} (h1 : Conn g l p x) (h2 : Conn g l x y) : Conn g l p y := by
 induction h2 with
 | base _ => exact h1
 | step _ h2 h3 ih => exact .step ih h2 h3
theorem Conn.symm {g : Int} {l : List Pt2} {p x : Pt2} (h : Conn g l p x) : Conn g l x p := by
 induction h with
 | base h => exact .base h
 | step h1 h2 h3 ih => exact Conn.trans (.step (.base h2) h1.mem (by rw [far_comm]; exact h3)) ih
theorem ClS.mem {g : Int} {l : List Pt2} {cs : List (List Pt2)} (h : ClS g l cs) : ∀ c ∈ cs, ∀ x ∈ c, x ∈ l := by
 induction h with
 | nil => intro c hc; cases hc
 | cons h1 h2 _ ih =>
  intro c hc x hx
  rcases List.mem_cons.1 hc with rfl|hc
  ·exact ((h2 x).1 hx).mem
  ·exact (minus_mem.1 (ih c hc x hx)).1
theorem ClS.rows {g : Int} {l : List Pt2} {cs : List (List Pt2)} (h : ClS g l cs) : ∀ c ∈ cs, ByRows c := by
 induction h with
 | nil => intro c hc; cases hc
 | cons h1 h2 _ ih =>
  intro c hc
  rcases List.mem_cons.1 hc with rfl|hc
  ·exact h1
  ·exact ih c hc
theorem ClS.cover {g : Int} {l : List Pt2} {cs : List (List Pt2)} (h : ClS g l cs) : ∀ x ∈ l, ∃ c ∈ cs, x ∈ c := by
 induction h with
 | nil => intro c hc; cases hc
 | @cons p r c cs h1 h2 _ ih =>
  intro x hx
  by_cases hc : x ∈ c
  ·exact ⟨c, by simp, hc⟩
  ·obtain ⟨d, hd, hx⟩ := ih x (minus_mem.2 ⟨hx, hc⟩)
   exact ⟨d, by simp [hd], hx⟩
theorem ClS.closed {g : Int} {l : List Pt2} {cs : List (List Pt2)} (h : ClS g l cs) : ∀ c ∈ cs, ∀ x ∈ c, ∀ y ∈ l, far x y <= g -> y ∈ c := by
 induction h with
 | nil => intro c hc; cases hc
 | @cons p r c cs h1 h2 h3 ih =>
  intro d hd x hx y hy hf
  rcases List.mem_cons.1 hd with rfl|hd
  ·exact (h2 y).2 (.step ((h2 x).1 hx) hy hf)
  ·have hxm := minus_mem.1 (h3.mem d hd x hx)
   by_cases hyc : y ∈ c
   ·exact absurd ((h2 x).2 (.step ((h2 y).1 hyc) hxm.1 (by rw [far_comm]; exact hf))) hxm.2
   ·exact ih d hd x hx y (minus_mem.2 ⟨hy, hyc⟩) hf
theorem ClS.first {g : Int} {l : List Pt2} {cs : List (List Pt2)} (hl : ByRows l) (h : ClS g l cs) : ∀ c ∈ cs, ∃ p t, c = p :: t /\ ∀ x, x ∈ c ↔ Conn g c p x := by
 induction h with
 | nil => intro c hc; cases hc
 | @cons p r c cs h1 h2 h3 ih =>
  intro d hd
  rcases List.mem_cons.1 hd with rfl|hd
  ·have hp : p ∈ d := (h2 p).2 (.base (by simp))
   have hin : ∀ x, Conn g (p :: r) p x -> Conn g d p x := fun x hx => by
    induction hx with
    | base _ => exact .base hp
    | step k1 k2 k3 ih => exact .step ih ((h2 _).2 (.step k1 k2 k3)) k3
   have hdc : ∀ x, x ∈ d ↔ Conn g d p x := fun x => ⟨fun hx => hin x ((h2 x).1 hx), fun hx => hx.mem⟩
   cases d with
   | nil => cases hp
   | cons a t =>
    have hap : a = p := by
     rcases List.mem_cons.1 hp with e|e
     ·exact e.symm
     ·rw [ByRows, List.pairwise_cons] at h1
      have ha := h1.1 p e
      have hal := ((h2 a).1 (by simp)).mem
      rcases List.mem_cons.1 hal with e2|e2
      ·exact e2
      ·rw [ByRows, List.pairwise_cons] at hl
       exact absurd (before_trans ha (hl.1 a e2)) before_irrefl
    subst hap
    exact ⟨a, t, rfl, hdc⟩
  ·exact ih (hl.minus c) d hd
def hd (c : List Pt2) : Pt2 := c.headD (0, 0)
theorem ClS.heads {g : Int} {l : List Pt2} {cs : List (List Pt2)} (hl : ByRows l) (h : ClS g l cs) : ByRows (cs.map hd) := by
 induction h with
 | nil => exact List.Pairwise.nil
 | @cons p r c cs h1 h2 h3 ih =>
  obtain ⟨q, t, hc, hq⟩ := (ClS.cons h1 h2 h3).first hl c (by simp)
  have hp : p ∈ c := (h2 p).2 (.base (by simp))
  have hqp : q = p := by
   rw [hc] at hp h1
   rcases List.mem_cons.1 hp with e|e
   ·exact e.symm
   ·rw [ByRows, List.pairwise_cons] at h1
    have ha := h1.1 p e
    have hal := ((h2 q).1 (by rw [hc]; simp)).mem
    rcases List.mem_cons.1 hal with e2|e2
    ·exact e2
    ·rw [ByRows, List.pairwise_cons] at hl
     exact absurd (before_trans ha (hl.1 q e2)) before_irrefl
  rw [List.map_cons, ByRows, List.pairwise_cons]
  refine ⟨fun y hy => ?_, ih (hl.minus c)⟩
  obtain ⟨d, hdm, rfl⟩ := List.mem_map.1 hy
  obtain ⟨a, t', hd', _⟩ := h3.first (hl.minus c) d hdm
  have h5 : a ∈ minus (p :: r) c := h3.mem d hdm a (by rw [hd']; simp)
  have h6 := minus_mem.1 h5
  have : before p a = true := by
   rcases List.mem_cons.1 h6.1 with e|e
   ·subst e; exact absurd hp h6.2
   ·rw [ByRows, List.pairwise_cons] at hl
    exact hl.1 a e
  rw [hc, hd', hqp]
  exact this
theorem ClS.part {g : Int} {l : List Pt2} {cs : List (List Pt2)} (hl : ByRows l) (h : ClS g l cs) {c : List Pt2} (hc : c ∈ cs) : ClS g c [c] := by
 obtain ⟨p, t, rfl, hp⟩ := h.first hl c hc
 refine .cons (h.rows _ hc) hp ?_
 have : minus (p :: t) (p :: t) = [] := by
  unfold minus
  exact List.filter_eq_nil_iff.2 fun x hx => by simp only [decide_eq_true hx]; decide
 rw [this]
 exact .nil
end Go.Ae

namespace Go.Ae
open Go.Ab Go.Proofs
theorem sub_lenG {α : Type} [DecidableEq α] : ∀ {a b : List α}, a.Nodup -> (∀ x ∈ a, x ∈ b) -> a.length <= b.length
 | [], b, _, _ => Nat.zero_le _
 | x :: a, b, hn, h => by
  rw [List.nodup_cons] at hn
  have hx : x ∈ b := h x (by simp)
  have h1 := sub_lenG (a := a) (b := b.erase x) hn.2 (fun y hy => (List.mem_erase_of_ne (fun e => hn.1 (by rw [<- e]; exact hy))).2 (h y (by simp [hy])))
  rw [List.length_erase_of_mem hx] at h1
  have h2 : 0 < b.length := List.length_pos_of_mem hx
  rw [List.length_cons]
  omega
theorem nodup_of_cover {α : Type} [DecidableEq α] : ∀ {m c : List α}, c.Nodup -> (∀ x ∈ c, x ∈ m) -> m.length <= c.length -> m.Nodup
 | [], _, _, _, _ => List.nodup_nil
 | x :: m, c, hn, h, hl => by
  rw [List.nodup_cons]
  rw [List.length_cons] at hl
  have hxm : x ∉ m := fun hx => by
   have := sub_lenG hn (b := m) (fun y hy => by
    rcases List.mem_cons.1 (h y hy) with rfl|e
    ·exact hx
    ·exact e)
   omega
  refine ⟨hxm, nodup_of_cover (c := c.erase x) (hn.erase x) (fun y hy => ?_) ?_⟩
  ·have h1 := hn.mem_erase_iff.1 hy
   rcases List.mem_cons.1 (h y h1.2) with e|e
   ·exact absurd e h1.1
   ·exact e
  ·rw [List.length_erase]
   split <;> omega
def cntP (c : List (List Pt2)) (s : List Pt2) : Nat := (c.filter (fun x => decide (x = s))).length
theorem cntP_one {s : List Pt2} : ∀ {c : List (List Pt2)}, c.Nodup -> s ∈ c -> cntP c s = 1
 | [], _, h => by cases h
 | y :: t, hn, hs => by
  rw [List.nodup_cons] at hn
  unfold cntP
  by_cases hy : y = s
  ·subst hy
   rw [List.filter_cons, if_pos (by simp), List.filter_eq_nil_iff.2 fun x hx => ?_]
   ·rfl
   ·simp only [decide_eq_true_eq]
    exact fun e => hn.1 (e ▸ hx)
  ·rw [List.filter_cons, if_neg (by simp [hy])]
   rcases List.mem_cons.1 hs with e|e
   ·exact absurd e.symm hy
   ·exact cntP_one hn.2 e
theorem cntP_mem {s : List Pt2} {c : List (List Pt2)} (h : cntP c s = 1) : s ∈ c := by
 unfold cntP at h
 obtain ⟨x, hx⟩ := List.length_eq_one_iff.1 h
 have : x ∈ c.filter (fun x => decide (x = s)) := by rw [hx]; simp
 rw [List.mem_filter, decide_eq_true_eq] at this
 rw [<- this.2]
 exact this.1
theorem ClS.walk {g : Int} {l l' : List Pt2} {cs : List (List Pt2)} (h : ClS g l cs) {c : List Pt2} (hc : c ∈ cs) {x y : Pt2} (hx : x ∈ c) (hy : Conn g l' x y) (hl : ∀ z ∈ l', z ∈ l) : y ∈ c := by
 induction hy with
 | base _ => exact hx
 | step _ h2 h3 ih => exact h.closed c hc _ ih _ (hl _ h2) h3
theorem ClS.conn {g : Int} {l : List Pt2} {cs : List (List Pt2)} (hl : ByRows l) (h : ClS g l cs) {c : List Pt2} (hc : c ∈ cs) {x y : Pt2} (hx : x ∈ c) (hy : y ∈ c) : Conn g c x y := by
 obtain ⟨p, t, _, hp⟩ := h.first hl c hc
 exact ((hp x).1 hx).symm.trans ((hp y).1 hy)
theorem ClS.disj {g : Int} {l : List Pt2} {cs : List (List Pt2)} (hl : ByRows l) (h : ClS g l cs) {c d : List Pt2} (hc : c ∈ cs) (hd : d ∈ cs) {x : Pt2} (hx : x ∈ c) (hx' : x ∈ d) : c = d :=
 ByRows.ext (h.rows c hc) (h.rows d hd) fun _ => ⟨fun hy => h.walk hd hx' (h.conn hl hc hx hy) (h.mem c hc), fun hy => h.walk hc hx (h.conn hl hd hx' hy) (h.mem d hd)⟩
theorem ClS.nodup {g : Int} {l : List Pt2} {cs : List (List Pt2)} (hl : ByRows l) (h : ClS g l cs) : cs.Nodup :=
 List.Pairwise.of_map hd (fun _ _ hne e => hne (by rw [e])) (h.heads hl).nodup
open Classical in
theorem cl1_true {g : Int} {a : List Pt2} : cl1 g a = true ↔ ∃ cs, ClS g (sortedP a) cs /\ cs.length = 1 := by
 unfold cl1
 exact decide_eq_true_iff
theorem cl1_iff {g : Int} {a : List Pt2} (hne : a ≠ []) : cl1 g a = true ↔ ∀ x ∈ a, ∀ y ∈ a, Conn g a x y := by
 rw [cl1_true]
 constructor
 ·rintro ⟨cs, h, h1⟩ x hx y hy
  obtain ⟨k, rfl⟩ := List.length_eq_one_iff.1 h1
  have hin : ∀ z ∈ a, z ∈ k := fun z hz => by
   obtain ⟨c, hc, hz⟩ := h.cover z (sortedP_mem.2 hz)
   rw [List.mem_singleton] at hc
   rw [<- hc]
   exact hz
  exact (h.conn (sortedP_rows _) (c := k) (by simp) (hin x hx) (hin y hy)).mono (Int.le_refl g) fun z hz => sortedP_mem.1 (h.mem k (by simp) z hz)
 ·intro h
  have hm : ∀ z, z ∈ sortedP a ↔ z ∈ a := fun z => sortedP_mem
  have hr := sortedP_rows a
  generalize sortedP a = s at *
  cases s with
  | nil =>
   cases a with
   | nil => exact absurd rfl hne
   | cons x t => exact absurd ((hm x).2 (by simp)) (by simp)
  | cons p r =>
   refine ⟨[p :: r], .cons hr (fun x => ⟨fun hx => ?_, fun hx => hx.mem⟩) ?_, rfl⟩
   ·exact (h p ((hm p).1 (by simp)) x ((hm x).1 hx)).mono (Int.le_refl g) fun z hz => (hm z).2 hz
   ·rw [show minus (p :: r) (p :: r) = [] from List.filter_eq_nil_iff.2 fun x hx => by simp only [decide_eq_true hx]; decide]
    exact .nil
theorem dist_le {a b : List Pt2} (ha : a ≠ []) (hb : b ≠ []) {g : Int} : dist a b <= g ↔ ∃ x ∈ a, ∃ y ∈ b, far x y <= g := by
 obtain ⟨⟨x, hx, y, hy, h1⟩, h2⟩ := dist_spec ha hb
 constructor
 ·intro h; exact ⟨x, hx, y, hy, oM⟩
 ·rintro ⟨x, hx, y, hy, h⟩
  have := h2 x hx y hy
  omega
theorem Good2.sym {g : Int} {l : List (List Pt2)} (h : Good2 g l) {i k : Nat} {a b : List Pt2} (hik : i ≠ k) (ha : l[i]? = some a) (hb : l[k]? = some b) : ¬ dist a b <= g := by
 rcases Nat.lt_or_gt_of_ne hik with hlt|hlt
 ·exact h i k a b hlt ha hb
 ·rw [dist_comm]
  exact h k i b a hlt hb ha
theorem sortedP_ne {a b : List Pt2} (ha : a ≠ []) (h : ∀ x ∈ a, x ∉ b) : sortedP a ≠ sortedP b := fun e => by
 cases a with
 | nil => exact absurd rfl ha
 | cons x t =>
  have h1 : x ∈ sortedP (x :: t) := sortedP_mem.2 (by simp)
  rw [e, sortedP_mem] at h1
  exact h x (by simp) h1
theorem apart_want {g : Int} {l c : List (List Pt2)} (hne : ∀ a ∈ l, a ≠ []) (hg : 0 <= g) (hc : ClS g (sortedP l.flatten) c) : (Good1 g l /\ Good2 g l) ↔ (c.length = l.length /\ ∀ a ∈ l, cntP c (sortedP a) = 1) := by
 have hr := sortedP_rows l.flatten
 have hin : ∀ {a x}, a ∈ l -> x ∈ a -> x ∈ sortedP l.flatten := fun ha hx => sortedP_mem.2 (List.mem_flatten.2 ⟨_, ha, hx⟩)
 have hnd := hc.nodup hr
 have hsub : (∀ a ∈ l, sortedP a ∈ c) -> ∀ k ∈ c, k ∈ l.map sortedP := fun hall k hk => by
  obtain ⟨p, t, hpt, _⟩ := hc.first hr k hk
  have hp : p ∈ k := by rw [hpt]; simp
  obtain ⟨a, ha, hpa⟩ := List.mem_flatten.1 (sortedP_mem.1 (hc.mem k hk p hp))
  exact List.mem_map.2 ⟨a, ha, (hc.disj hr hk (hall a ha) hp (sortedP_mem.2 hpa)).symm⟩
 constructor
 ·rintro ⟨g1, g2⟩
  have hcl : ∀ (i : Nat) (a : List Pt2), l[i]? = some a -> ∀ x ∈ a, ∀ y ∈ sortedP l.flatten, far x y <= g -> y ∈ a := fun i a hi x hx y hy hf => by
   obtain ⟨b, hb, hyb⟩ := List.mem_flatten.1 (sortedP_mem.1 hy)
   obtain ⟨k, hk⟩ := List.getElem?_of_mem hb
   by_cases hik : i = k
   ·subst hik
    rw [hi] at hk
    rw [Option.some.inj hk]
    exact hyb
   ·exact absurd ((dist_le (hne a (List.mem_of_getElem? hi)) (hne b hb)).2 ⟨x, hx, y, hyb, hf⟩) (g2.sym hik hi hk)
  have hall : ∀ a ∈ l, sortedP a ∈ c := fun a ha => by
   obtain ⟨i, hi⟩ := List.getElem?_of_mem ha
   obtain ⟨x, hx⟩ := List.exists_mem_of_ne_nil a (hne a ha)
   obtain ⟨k, hk, hxk⟩ := hc.cover x (hin ha hx)
   have : k = sortedP a := ByRows.ext (hc.rows k hk) (sortedP_rows a) fun y => by
    rw [sortedP_mem]
    constructor
    ·intro hy
     have h1 := hc.conn hr hk hxk hy
     clear hy
     induction h1 with
     | base _ => exact hx
     | step _ k2 k3 ih => exact hcl i a hi _ ih _ (hc.mem k hk _ k2) k3
    ·intro hy
     exact hc.walk hk hxk ((cl1_iff (hne a ha)).1 (g1 a ha) x hx y hy) fun z hz => hin ha hz
   rw [<- this]
   exact hk
  have hmn : (l.map sortedP).Nodup := by
   rw [List.Nodup, List.pairwise_map, List.pairwise_iff_getElem]
   intro i k hi hk hik
   refine sortedP_ne (hne _ (List.getElem_mem hi)) fun x hx hx' => ?_
   refine g2 i k _ _ hik (List.getElem?_eq_getElem hi) (List.getElem?_eq_getElem hk) ?_
   exact (dist_le (hne _ (List.getElem_mem hi)) (hne _ (List.getElem_mem hk))).2 ⟨x, hx, x, hx', by rw [(far_zero x x).2 rfl]; exact hg⟩
  refine ⟨?_, fun a ha => cntP_one hnd (hall a ha)⟩
  have h1 := sub_lenG hnd (hsub hall)
  have h2 := sub_lenG hmn (b := c) fun x hx => by
   obtain ⟨a, ha, rfl⟩ := List.mem_map.1 hx
   exact hall a ha
  rw [List.length_map] at h1 h2
  omega
 ·rintro ⟨hlen, hcnt⟩
  have hall : ∀ a ∈ l, sortedP a ∈ c := fun a ha => cntP_mem (hcnt a ha)
  have hmn := nodup_of_cover hnd (hsub hall) (by rw [List.length_map]; omega)
  refine ⟨fun a ha => ?_, fun i k a b hik hi hk hd => ?_⟩
  ·rw [cl1_true]
   exact ⟨[sortedP a], hc.part hr (hall a ha), rfl⟩
  ·have ha := List.mem_of_getElem? hi
   have hb := List.mem_of_getElem? hk
   obtain ⟨x, hx, y, hy, hf⟩ := (dist_le (hne a ha) (hne b hb)).1 hd
   have h1 : y ∈ sortedP a := hc.closed _ (hall a ha) x (sortedP_mem.2 hx) y (hin hb hy) hf
   have h2 := hc.disj hr (hall a ha) (hall b hb) h1 (sortedP_mem.2 hy)
   rw [List.Nodup, List.pairwise_map, List.pairwise_iff_getElem] at hmn
   obtain ⟨hi1, hi2⟩ := List.getElem?_eq_some_iff.1 hi
   obtain ⟨hk1, hk2⟩ := List.getElem?_eq_some_iff.1 hk
   refine hmn i k hi1 hk1 hik ?_
   rw [hi2, hk2]
   exact h2
end Go.Ae

namespace Go.Ae
open Go.Ab Go.Proofs
set_option linter.unusedSimpArgs false
def mv (v q : Pt2) : Pt2 := (q.1 + v.1, q.2 + v.2)
theorem Chk.ok_iff {p : Pic} {r : Res} (h : Chk p r) (hv : validPic p = true) : r.2.2 = 0 ↔ Good1 p.gap (ptsOf p) /\ Good2 p.gap (ptsOf p) := by
 cases h with
 | arg h => exact absurd hv h
 | bad1 i _ hb => exact ⟨fun e => (by cases e), fun e => (hb.not e.1).elim⟩
 | bad2 i k _ _ hb => exact ⟨fun e => (by cases e), fun e => (hb.not e.2).elim⟩
 | ok _ h1 h2 => exact ⟨fun _ => ⟨h1, h2⟩, fun _ => rfl⟩
theorem pointsF_ne {f : Ft} (hv : validF f = true) : pointsF f ≠ [] := fun e => by
 obtain ⟨⟨hn1, _⟩, _⟩ := valid_pts hv
 have h := corner_mem hv (at0_mem (L := f.pts) (i := 0) oM)
 rw [e] at h
 cases h
theorem ptsOf_ne {p : Pic} (hv : validPic p = true) : ∀ a ∈ ptsOf p, a ≠ [] := fun a ha => by
 obtain ⟨f, hf, rfl⟩ := List.mem_map.1 ha
 exact pointsF_ne (validPic_v hv f hf)
def TkP (A : List Bool) (P : Nat -> Nat -> Prop) : Prop := A.length = 3600 /\ ∀ y x, y < 60 -> x < 60 -> (A[y * 60 + x]? = some true ↔ P y x)
theorem TkP.congr {A : List Bool} {P Q : Nat -> Nat -> Prop} (h : TkP A P) (he : ∀ y x, y < 60 -> x < 60 -> (P y x ↔ Q y x)) : TkP A Q := ⟨h.1, fun y x hy hx => (h.2 y x hy hx).trans (he y x hy hx)⟩
theorem TkP.none : TkP (List.replicate 3600 false) fun _ _ => False := ⟨List.length_replicate, fun y x hy hx => by
 rw [List.getElem?_replicate, if_pos (by omega)]
 simp⟩
theorem TkP.set {A : List Bool} {P : Nat -> Nat -> Prop} (h : TkP A P) {y x : Nat} (hy : y < 60) (hx : x < 60) : TkP (A.set (y * 60 + x) true) fun j i => P j i \/ (j = y /\ i = x) := by
 refine ⟨by rw [List.length_set]; exact h.1, fun j i hj hi => ?_⟩
 rw [List.getElem?_set]
 by_cases e : y * 60 + x = j * 60 + i
 ·have : j = y /\ i = x := by omega
  rw [if_pos e, if_pos (by rw [h.1]; omega)]
  exact ⟨fun _ => .inr this, fun _ => rfl⟩
 ·rw [if_neg e, h.2 j i hj hi]
  constructor
  ·exact .inl
  ·rintro (h|⟨rfl, rfl⟩)
   ·exact h
   ·exact absurd rfl e
theorem TkP.at {A : List Bool} {P : Nat -> Nat -> Prop} (h : TkP A P) {y x : Nat} (hy : y < 60) (hx : x < 60) : ∃ b, A[y * 60 + x]? = some b /\ (b = true ↔ P y x) := by
 obtain ⟨b, hb⟩ : ∃ b, A[y * 60 + x]? = some b := ⟨_, List.getElem?_eq_getElem (by rw [h.1]; omega)⟩
 refine ⟨b, hb, ?_⟩
 rw [<- h.2 y x hy hx, hb]
 simp
def nearD (p : Pic) (q : Pt2) (j i : Nat) : Prop := (i : Int) < p.w /\ (j : Int) < p.h /\ far q ((i : Int), (j : Int)) <= p.gap
def nearL (p : Pic) (l : List Pt2) (j i : Nat) : Prop := ∃ q ∈ l, nearD p q j i
theorem nearL_snoc {p : Pic} {l : List Pt2} {q : Pt2} {j i : Nat} : nearL p (l ++ [q]) j i ↔ nearL p l j i \/ nearD p q j i := by
 unfold nearL
 constructor
 ·rintro ⟨r, hr, h⟩
  rcases List.mem_append.1 hr with hr|hr
  ·exact .inl ⟨r, hr, h⟩
  ·rw [List.mem_singleton] at hr; subst hr; exact .inr h
 ·rintro (⟨r, hr, h⟩|h)
  ·exact ⟨r, List.mem_append_left _ hr, h⟩
  ·exact ⟨q, by simp, h⟩
theorem near_iff {p : Pic} {q : Pt2} {j i : Nat} : nearD p q j i ↔ (i : Int) < p.w /\ (j : Int) < p.h /\ q.1 - p.gap <= (i : Int) /\ (i : Int) <= q.1 + p.gap /\ q.2 - p.gap <= (j : Int) /\ (j : Int) <= q.2 + p.gap := by
 unfold nearD far
 constructor
 ·rintro ⟨h1, h2, h3⟩
  simp only at h3
  refine ⟨h1, h2, ?_⟩
  omega
 ·rintro ⟨h1, h2, h3⟩
  refine ⟨h1, h2, ?_⟩
  simp only
  omega
def mkY (p : Pic) (l : List Pt2) (q : Pt2) (y : Int) (j i : Nat) : Prop := nearL p l j i \/ (nearD p q j i /\ (j : Int) < y)
def mkX (p : Pic) (l : List Pt2) (q : Pt2) (y x : Int) (j i : Nat) : Prop := nearL p l j i \/ (nearD p q j i /\ ((j : Int) < y \/ ((j : Int) = y /\ (i : Int) < x)))
theorem mkY_start {p : Pic} {l : List Pt2} {q : Pt2} {j i : Nat} : nearL p l j i ↔ mkY p l q (max 0 (q.2 - p.gap)) j i := by
 unfold mkY
 rw [near_iff]
 constructor
 ·exact .inl
 ·rintro (h|h)
  ·exact h
  ·omega
theorem mkY_end {p : Pic} {l : List Pt2} {q : Pt2} {y : Int} {j i : Nat} (h : ¬ y <= min (p.h - 1) (q.2 + p.gap)) : mkY p l q y j i ↔ nearL p (l ++ [q]) j i := by
 unfold mkY
 rw [nearL_snoc, near_iff]
 constructor
 ·rintro (h|h)
  ·exact .inl h
  ·exact .inr h.1
 ·rintro (h|h)
  ·exact .inl h
  ·exact .inr ⟨h, oM⟩
theorem mkX_start {p : Pic} {l : List Pt2} {q : Pt2} {y : Int} {j i : Nat} : mkY p l q y j i ↔ mkX p l q y (max 0 (q.1 - p.gap)) j i := by
 unfold mkY mkX
 rw [near_iff]
 constructor
 ·rintro (h|h)
  ·exact .inl h
  ·exact .inr ⟨h.1, .inl h.2⟩
 ·rintro (h|⟨h, h2⟩)
  ·exact .inl h
  ·exact .inr ⟨h, oM⟩
theorem mkX_end {p : Pic} {l : List Pt2} {q : Pt2} {y x : Int} {j i : Nat} (h : ¬ x <= min (p.w - 1) (q.1 + p.gap)) : mkX p l q y x j i ↔ mkY p l q (y + 1) j i := by
 unfold mkY mkX
 rw [near_iff]
 constructor
 ·rintro (h|⟨h, h2⟩)
  ·exact .inl h
  ·exact .inr ⟨h, oM⟩
 ·rintro (h|⟨h, h2⟩)
  ·exact .inl h
  ·exact .inr ⟨h, oM⟩
theorem mkX_step {p : Pic} {l : List Pt2} {q : Pt2} {y x : Nat} {j i : Nat} (h1 : max 0 (q.2 - p.gap) <= (y : Int)) (h2 : (y : Int) <= min (p.h - 1) (q.2 + p.gap)) (h3 : max 0 (q.1 - p.gap) <= (x : Int)) (h4 : (x : Int) <= min (p.w - 1) (q.1 + p.gap)) : (mkX p l q y x j i \/ (j = y /\ i = x)) ↔ mkX p l q y ((x : Int) + 1) j i := by
 unfold mkX
 rw [near_iff]
 constructor
 ·rintro ((h|⟨h, h2⟩)|⟨rfl, rfl⟩)
  ·exact .inl h
  ·exact .inr ⟨h, oM⟩
  ·exact .inr ⟨oM, oM⟩
 ·rintro (h|⟨h, h2⟩)
  ·exact .inl (.inl h)
  ·by_cases e : j = y /\ i = x
   ·exact .inr e
   ·exact .inl (.inr ⟨h, oM⟩)
def siteC (p : Pic) (d : DC) (A : List Bool) : List DC := picC p ++ d :: A.map bC
def bF (b : Bool) : FD := .c (.bool b)
def siteF (p : Pic) (n : Nat) (rows : List FD) (A : List Bool) : List FD := [.c (.int .i64 p.w), .c (.int .i64 p.h), .c (.int .i64 p.gap), .sl 3 p.fs.length (p.fs.flatMap ftF), .sl 1 n rows] ++ A.map bF
theorem siteF_C (p : Pic) (n : Nat) (rows : List FD) (A : List Bool) : siteC p (.f (.sl 1 n rows)) A = (siteF p n rows A).map .f := by
 simp [siteC, siteF, picC, bC, bF]
theorem siteC_set (p : Pic) (d : DC) (A : List Bool) (n : Nat) (b : Bool) : (siteC p d A).set (5 + n) (bC b) = siteC p d (A.set n b) := by
 simp only [siteC, picC, List.cons_append, List.nil_append]
 rw [show 5 + n = n + 1 + 1 + 1 + 1 + 1 by omega]
 simp only [List.set_cons_succ, List.map_set]
def siteV (p : Pic) (A : List Bool) : DV := .one (.fptr (siteF p (ptsOf p).length ((ptsOf p).map fun l => .sl 2 l.length (l.flatMap ptF)) A))
def SiteOk (p : Pic) (A : List Bool) : Prop := TkP A (nearL p (ptsOf p).flatten)
theorem lblP_in {p : Pic} {i : Nat} {q : Pt2} (h0 : 0 <= q.1 /\ 0 <= q.2) (h1 : 2 * (q.1 + 2) <= p.w) (h2 : 3 * (q.2 + 1) <= p.h) : ∀ r ∈ lblP i q, (0 <= r.1 /\ r.1 < p.w) /\ 0 <= r.2 /\ r.2 < p.h := fun r hr => by
 unfold lblP lbl at hr
 obtain ⟨k, hk, rfl⟩ := List.mem_map.1 hr
 have := List.mem_range.1 (List.mem_filter.1 hk).1
 simp only [lbQ]
 omega
theorem lblP_first (i : Nat) (q : Pt2) : lbQ q 1 ∈ lblP i q := by
 unfold lblP lbl
 exact List.mem_map.2 ⟨1, List.mem_filter.2 ⟨by simp, (show bitE 60 3 = true by kernel_rfl)⟩, rfl⟩
theorem lblP_ne (i : Nat) (q : Pt2) : lblP i q ≠ [] := fun e => by
 have := lblP_first i q
 rw [e] at this
 cases this
end Go.Ae

namespace Go.Ab
def fpC (k : Nat) (l : List FD) : DC -> DC
 | .ptr j o => match Nat.beq j k with
  | true => .fptr (l.drop o)
  | false => .ptr j o
 | d => d
def fpV (k : Nat) (l : List FD) : DV -> DV
 | .one d => .one (fpC k l d)
 | d => d
section
variable {p : Par} {base rs n : Nat} {W : Wt} {A : List Nat} {E : DEnv} {S : Bx} {nk : Nat}
theorem all2_f {Z : Nat -> Prop} {β : Beta} {H : Hp} : ∀ {fs : List FD} {cs : List C}, All2 (RD Z H β) (fs.map .f) cs -> All2 (RF Z H) fs cs
 | [], [], _ => trivial
 | _ :: _, _ :: _, h => ⟨h.1, all2_f h.2⟩
 | [], _ :: _, h => h.elim
 | _ :: _, [], h => h.elim
theorem frzP_ok {Z : Nat -> Prop} {β : Beta} {H : Hp} {F : T V} (hS : SR p Z β H S nk) (hE : ER Z β H E F) {k : Nat} {fs : List FD} (hk : lk S k = some (.cells (fs.map .f))) :
  ∃ Z', SR p Z' β H (era k S) nk /\ ER Z' β H (mapS (fpV k fs) E) F /\ ZLe Z H Z' H /\ ∀ b, Z' b ↔ Z b \/ ∃ N, β (k, 0) = some (.blk b N) := by
 have hZ : ZLe Z H (fun b => Z b \/ ∃ N, β (k, 0) = some (.blk b N)) H := fun b hb => ⟨.inl hb, fun _ _ h => h⟩
 obtain ⟨s0, hs0, hb0⟩ := hS.box (k, 0) _ (lk2_of hk rfl)
 have hC : ∀ d c, RD Z H β d c -> RD (fun b => Z b \/ ∃ N, β (k, 0) = some (.blk b N)) H β (fpC k fs d) c := fun d c hr => by
  cases d with
  | ptr j o =>
   simp only [fpC]
   by_cases hj : j = k
   ·subst hj
    rw [beq_self]
    obtain ⟨b, N, h1, rfl⟩ := hr
    rw [hs0] at h1
    obtain rfl := Option.some.inj h1
    obtain ⟨_, _, _, cs, rest, hrow, _, hrel⟩ := hb0
    have hrel : All2 (RD Z H β) (fs.map .f) cs := hrel
    have hrow : Row H b (cs ++ rest) := hrow
    have ha := (all2_f hrel).mono fun _ _ => RF.mono hZ
    have hlen : fs.length = cs.length := ha.len
    refine ⟨b, o, cs.drop o, rfl, .inr ⟨N, hs0⟩, ?_, ha.drop o⟩
    by_cases ho : o <= cs.length
    ·have h1 := loads_drop (m := o) (loads_take hrow.2 (m := cs.length) (by rw [List.length_append]; omega)) (by omega)
     rw [List.length_drop, hlen]
     rw [Nat.zero_add, List.take_append_of_le_length (Nat.le_refl _), List.take_length] at h1
     exact h1
    ·rw [List.drop_of_length_le (by omega), List.drop_of_length_le (by omega)]
     rfl
   ·rw [beq_ne hj]; exact hr
  | own j o n e => exact RD.mono (d := .own j o n e) hZ (BLe.refl β) hr
  | trow j i o n => exact RD.mono (d := .trow j i o n) hZ (BLe.refl β) hr
  | f d => exact RD.mono (d := .f d) hZ (BLe.refl β) hr
  | g b o => exact hr
  | tptr j i o => exact hr
  | fptr q => exact RD.mono (d := .fptr q) hZ (BLe.refl β) hr
  | fn f caps => exact hr
  | any => trivial
  | om j => exact hr
  | yl j => exact hr
 refine ⟨fun b => Z b \/ ∃ N, β (k, 0) = some (.blk b N), ⟨hS.wf, hS.lo, fun b hb => hb.elim (hS.z b) fun ⟨N, h⟩ => hS.bd _ b N h, fun b hb => ?_, fun b hb => .inl (hS.zz b hb), fun b bk hb => ⟨.inl (hS.glob b bk hb).1, (hS.glob b bk hb).2⟩, hS.nk, hS.bd, fun j y hj => ?_, fun j j' y y' b N N' hj hj' h1 h2 => ?_, hS.blo, hS.anch, hS.ancn⟩, fun n d hd => ?_, hZ, fun b => Iff.rfl⟩
 ·rcases hb with hb|⟨N, hb⟩
  ·exact hS.zlo b hb
  ·exact .inr (hS.blo _ b N hb)
 ·rw [lk2_era] at hj
  split at hj
  ·cases hj
  ·rename_i hne
   obtain ⟨s, hs, hbx⟩ := hS.box j y hj
   obtain ⟨w, hw⟩ := lk2_lk hj
   refine ⟨s, hs, ?_⟩
   cases s with
   | nil => exact hbx
   | blk b N =>
    obtain ⟨h1, h2, h3, cs, rest, h4, h5, h6⟩ := hbx
    exact ⟨fun h => h.elim h1 fun ⟨M, hM⟩ => hne (by rw [hS.inj j (k, 0) w _ b N M hw hk hs hM]), h2, h3, cs, rest, h4, h5, Bk.rel_mono hZ (BLe.refl β) h6⟩
 ·have f : ∀ i z, lk (era k S) i = some z -> lk S i = some z := fun i z hz => by
   rw [lk_era] at hz
   split at hz
   ·cases hz
   ·exact hz
  exact hS.inj j j' y y' b N N' (f _ _ hj) (f _ _ hj') h1 h2
 ·rw [lk_mapS] at hd
  cases hl : lk E n with
  | none => rw [hl] at hd; cases hd
  | some y =>
   rw [hl] at hd
   obtain rfl := Option.some.inj hd
   obtain ⟨v, hv, hr⟩ := hE n y hl
   refine ⟨v, hv, ?_⟩
   cases y with
   | one d => obtain ⟨c, rfl, hr⟩ := hr; exact ⟨c, rfl, hC d c hr⟩
   | agg m => exact RDV.mono (d := .agg m) hZ (BLe.refl β) hr
   | tup m => exact RDV.mono (d := .tup m) hZ (BLe.refl β) hr
theorem ds_frzP {Q : Exit -> DEnv -> Bx -> Nat -> Prop} {s : SC} (k : Nat) {fs : List FD} (hk : lk S k = some (.cells (fs.map .f))) (h : DPS p n s Q (mapS (fpV k fs) E) (era k S) nk) : DPS p n s Q E S nk := .mk fun Z β H F hS hE => by
 obtain ⟨Z', hS', hE', _, _⟩ := frzP_ok hS hE hk
 exact h.run Z' β H F hS' hE'
end
def BLea (a : Nat) (β β' : Beta) : Prop := ∀ k s, k < a -> β (k, 0) = some s -> β' (k, 0) = some s
def DXa (p : Par) (a : Nat) (f : FuncId) (ds : List DV) (S : Bx) (nk : Nat) (R : DV -> Bx -> Nat -> Prop) : Prop := ∀ Z β H args, SR p Z β H S nk -> All2 (RDV Z H β) ds args ->
 ACalls p.P p.G f args H fun v H' => ∃ d S' nk' Z' β', SR p Z' β' H' S' nk' /\ RDV Z' H' β' d v /\ ZLe Z H Z' H' /\ BLea a β β' /\ R d S' nk'
abbrev Par.holdA (p : Par) (a : Nat) (Z : Nat -> Prop) (β : Beta) (H : Hp) : Par := ⟨p.P, p.G, p.GH, Z, p.lo, a, β, H, none⟩
theorem SR.holdA {p : Par} {a : Nat} {Z : Nat -> Prop} {β : Beta} {H : Hp} {S : Bx} {nk : Nat} (h : SR p Z β H S nk) (ha : a <= nk) : SR (p.holdA a Z β H) Z β H S nk :=
 ⟨h.wf, h.lo, h.z, fun _ hb => .inl hb, fun _ hb => hb, fun b bk hb => hb.elim (fun hb => h.glob b bk (.inl hb)) fun hb => hb, h.nk, h.bd, h.box, h.inj, h.blo, fun _ _ _ => rfl, ha⟩
theorem SR.freeA {p : Par} {a : Nat} {Z Z' : Nat -> Prop} {β β' : Beta} {H H' : Hp} {S S' : Bx} {nk nk' : Nat} (h : SR p Z β H S nk) (ha : p.anc <= a) (h' : SR (p.holdA a Z β H) Z' β' H' S' nk') : SR p Z' β' H' S' nk' /\ ZLe Z H Z' H' /\ BLea a β β' := by
 have hz : ∀ b, Z b -> Z' b := h'.zz
 refine ⟨⟨h'.wf, h'.lo, h'.z, fun b hb => (h'.zlo b hb).elim (h.zlo b) .inr, fun b hb => hz b (h.zz b hb), fun b bk hb => h'.glob b bk (.inr (h.glob b bk hb)), h'.nk, h'.bd, h'.box, h'.inj, h'.blo, fun κ hκ h0 => ?_, Nat.le_trans ha h'.ancn⟩, fun b hb => ⟨hz b hb, fun i c hc => ?_⟩, fun k s hk hκ => ?_⟩
 ·exact (h'.anch κ (Nat.lt_of_lt_of_le hκ ha) h0).trans (h.anch κ hκ h0)
 ·unfold Hp.cell at hc ⊢
  cases hg : H.get b with
  | none => rw [hg] at hc; cases hc
  | some bk => rw [(h'.glob b bk (.inr ⟨hb, hg⟩)).2]; rw [hg] at hc; exact hc
 ·exact (h'.anch (k, 0) hk rfl).trans hκ
theorem dxa_ok {p : Par} {a : Nat} {f : FuncId} {sf : SFn} (hf : cpFn p.P p.G f = some sf) {ds : List DV} {S : Bx} {nk : Nat} {R : DV -> Bx -> Nat -> Prop} (hn : Nat.ble ds.length sf.n = true) (ha : p.anc <= a) (hank : a <= nk)
  (h : ∀ Z β H, DPS (p.holdA a Z β H) sf.n sf.code (retO (p.holdA a Z β H) sf.res R) (argsD ds 0) S nk) : DXa p a f ds S nk R := by
 intro Z β H args hS hag
 refine fn_ok hf (by rw [<- hag.len]; exact Nat.le_of_ble_eq_true hn) ?_
 refine swp_mono ((h Z β H).run Z β H _ (hS.holdA hank) (argsD_ok 0 hag)) fun e F' H' ⟨E', S', nk', Z', β', h1, h2, h3⟩ => ?_
 have fin : (∃ d, resultD (p.holdA a Z β H) E' S' sf.res = some d /\ onesD d = true /\ ∃ S0, SubA S0 S' /\ R d S0 nk') -> ∃ v, aResult F' H' sf.res = some v /\ ∃ d S' nk' Z' β', SR p Z' β' H' S' nk' /\ RDV Z' H' β' d v /\ ZLe Z H Z' H' /\ BLea a β β' /\ R d S' nk' := fun ⟨d, hd, hfr, S0, hsub, hR⟩ => by
  obtain ⟨v, hv, hr⟩ := resultO_ok h1 h2 hd hfr
  obtain ⟨g1, g2, g3⟩ := hS.freeA ha (h1.keepS hsub)
  exact ⟨v, hv, d, S0, nk', Z', β', g1, hr, g2, g3, hR⟩
 cases e with
 | normal => obtain ⟨v, hv, hr⟩ := fin h3; simp only [retQ, hv]; exact hr
 | ret => obtain ⟨v, hv, hr⟩ := fin h3; simp only [retQ, hv]; exact hr
 | _ => exact h3.elim
section
variable {p : Par} {base rs : Nat} {Q : DEnv -> Bx -> Nat -> Prop} {r : List SOper} {W : Wt} {A : List Nat} {E : DEnv} {S : Bx} {nk : Nat} {id : Nat} {dst : Option Nat} {aid : Option Nat} {ws : List Nat} {keep : Bool}
theorem blea_cut {a : Nat} {β β' : Beta} (h : BLea a β β') : BLe0 (rnBeta [] a β) β' := fun k s hk => by
 by_cases hka : k < a
 ·simp only [rnBeta, if_pos hka] at hk
  exact h k s hka hk
 ·simp only [rnBeta, if_neg hka] at hk
  cases hk
theorem SR.none {Z : Nat -> Prop} {β : Beta} {H : Hp} (h : SR p Z β H S nk) : SR p Z β H [] nk := h.keepS (SubA.nil _)
theorem dw_cxa {f : FuncId} {args : List Opd} {ds : List DV} {R : DV -> Bx -> Nat -> Prop} {E0 : DEnv} {S0 : Bx} {n0 a : Nat} (ρ : List (Nat × Nat)) (hw : Wk p ρ n0 E0 S0 E S) (hvs : ros E0 args = some ds) (hW : noW W = true) (hT : noT E0 = true) (hsm : Wk p [] a E0 [] E0 []) (hc : DXa p a f ds S0 n0 R) (h : ∀ d S' nk', R d S' nk' -> DPW p base 0 Q r W A (setD E0 dst d) S' nk') : DPW p base rs Q (⟨id, dst, .cf f args, none, aid, ws, keep⟩ :: r) W A E S nk := .mk fun Z β H F c hS hE hC hA => by
 obtain ⟨hS0, hE0⟩ := wk_ok2 hS hE hw
 obtain ⟨_, hEa⟩ := wk_ok2 hS0.none hE0 hsm
 simp only [wOps, wantedA, if_true]
 refine (hc Z _ H _ hS0 (ros_ok hE0 hvs)).mono ?_
 rintro v H' ⟨d, S', nk', Z', β', hS', hr, hZ, hB, hR⟩
 have hC' : CR W Z' β' H' c := hC.noW (noW_mem hW) hZ
 exact ⟨hC'.watch ws, (h d S' nk' hR).run Z' β' H' _ c hS' ((hEa.mono0 hZ (blea_cut hB) hT).set dst hr) hC' ⟨hA.1, fun j hj => absurd hj oM⟩⟩
theorem dw_cxva {x : Opd} {f : FuncId} {caps : List (Nat × Nat)} {args : List Opd} {ds : List DV} {R : DV -> Bx -> Nat -> Prop} {E0 : DEnv} {S0 : Bx} {n0 a : Nat} (ρ : List (Nat × Nat)) (hw : Wk p ρ n0 E0 S0 E S) (hx : ro E0 x = some (.one (.fn f caps))) (hf : isFn p.P f = true) (hvs : ros E0 args = some ds) (hW : noW W = true) (hT : noT E0 = true) (hsm : Wk p [] a E0 [] E0 []) (hc : DXa p a f (ds ++ capsA caps) S0 n0 R) (h : ∀ d S' nk', R d S' nk' -> DPW p base 0 Q r W A (setD E0 dst d) S' nk') : DPW p base rs Q (⟨id, dst, .cv x args, none, aid, ws, keep⟩ :: r) W A E S nk := .mk fun Z β H F c hS hE hC hA => by
 obtain ⟨hS0, hE0⟩ := wk_ok2 hS hE hw
 obtain ⟨_, hEa⟩ := wk_ok2 hS0.none hE0 hsm
 obtain ⟨cx, hcx, caps', rfl, hcaps⟩ := ro_ok hE0 hx
 simp only [wOps, wantedA, if_true, hcx]
 refine ⟨hf, ?_⟩
 refine (hc Z _ H _ hS0 ((ros_ok hE0 hvs).append (capsA_ok hcaps))).mono ?_
 rintro v H' ⟨d, S', nk', Z', β', hS', hr, hZ, hB, hR⟩
 have hC' : CR W Z' β' H' c := hC.noW (noW_mem hW) hZ
 exact ⟨hC'.watch ws, (h d S' nk' hR).run Z' β' H' _ c hS' ((hEa.mono0 hZ (blea_cut hB) hT).set dst hr) hC' ⟨hA.1, fun j hj => absurd hj oM⟩⟩
theorem dw_wk {E0 : DEnv} {S0 : Bx} {n0 : Nat} (ρ : List (Nat × Nat)) (hw : Wk p ρ n0 E0 S0 E S) (hW : noW W = true) (h : DPW p base 0 Q r W A E0 S0 n0) : DPW p base rs Q r W A E S nk := .mk fun Z β H F c hS hE hC hA => by
 obtain ⟨hS0, hE0⟩ := wk_ok2 hS hE hw
 exact h.run Z _ H F c hS0 hE0 (hC.noW (noW_mem hW) (ZLe.refl Z H)) ⟨hA.1, fun j hj => absurd hj oM⟩
end
section
variable {p : Par} {n : Nat} {Q : Exit -> DEnv -> Bx -> Nat -> Prop} {E : DEnv} {S : Bx} {nk : Nat}
theorem ds_virtC {s : SC} (kb i esz : Nat) {l : List DC} (hk : lk S kb = some (.cells l)) (hi : l[i]? = some (.f (.c .nils))) (h : DPS p n s Q E ((nk, .data []) :: put kb (.cells (l.set i (.own nk 0 0 esz))) S) (nk + 1)) : DPS p n s Q E S nk := .mk fun Z β H F hS hE => by
 have hT := virt_ok hS
 have hB := hS.ble .nil
 have hkn := hS.lt hk
 have hkT : lk ((nk, .data []) :: S) kb = some (.cells l) := by rw [lk_cons, if_neg (by omega)]; exact hk
 refine h.run Z _ H F ?_ (hE.mono (ZLe.refl Z H) hB)
 have hput : ∀ j, lk ((nk, .data []) :: put kb (.cells (l.set i (.own nk 0 0 esz))) S) j = lk (put kb (.cells (l.set i (.own nk 0 0 esz))) ((nk, .data []) :: S)) j := fun j => by
  simp only [put, beq_ne (show nk ≠ kb by omega)]
 refine ⟨hT.wf, hT.lo, hT.z, hT.zlo, hT.zz, hT.glob, hT.nk, hT.bd, fun κ y hκ => ?_, fun κ κ' y y' b N N' hj hj' => ?_, hT.blo, hT.anch, hT.ancn⟩
 ·rw [lk2_congr (hput κ.1), lk2_put hkT rfl] at hκ
  split at hκ
  ·rename_i e
   split at hκ
   ·rename_i e2
    obtain rfl := key_eq e e2
    obtain rfl := Option.some.inj hκ
    obtain ⟨s, hs, hbx⟩ := hT.box (kb, 0) _ (lk2_of hkT rfl)
    refine ⟨s, hs, ?_⟩
    cases s with
    | nil =>
     have : l = [] := List.eq_nil_of_length_eq_zero hbx
     subst this; cases hi
    | blk b N =>
     obtain ⟨g1, g2, g3, cs, rest, g4, g5, g6⟩ := hbx
     refine ⟨g1, g2, g3, cs, rest, g4, g5, ?_⟩
     obtain ⟨c, hc, hr⟩ := All2.at g6 i _ hi
     cases hr
     have hset : cs.set i .nils = cs := by
      refine List.ext_getElem? fun j => ?_
      rw [List.getElem?_set]
      split
      ·rename_i ej; subst ej; rw [hc]; first|rfl|rw [if_pos (List.getElem?_eq_some_iff.1 hc).1]
      ·rfl
     show All2 _ _ _
     rw [<- hset]
     exact All2.set g6 i (.inl ⟨updB_self _ _ _, rfl, rfl, rfl⟩)
   ·cases hκ
  ·exact hT.box κ y hκ
 ·rw [hput] at hj hj'
  rw [lk_put] at hj hj'
  have f : ∀ a z, (if a = kb then Option.map (fun _ => Bk.cells (l.set i (.own nk 0 0 esz))) (lk ((nk, .data []) :: S) a) else lk ((nk, .data []) :: S) a) = some z -> ∃ z', lk ((nk, .data []) :: S) a = some z' := fun a z hz => by
   split at hz
   ·cases hl : lk ((nk, .data []) :: S) a with
    | none => rw [hl] at hz; cases hz
    | some q => exact ⟨q, rfl⟩
   ·exact ⟨z, hz⟩
  obtain ⟨z1, e1⟩ := f κ.1 y hj
  obtain ⟨z2, e2⟩ := f κ'.1 y' hj'
  exact hT.inj κ κ' z1 z2 b N N' e1 e2
def scopeD (Q : Exit -> DEnv -> Bx -> Nat -> Prop) : Exit -> DEnv -> Bx -> Nat -> Prop
 | .goto _, _, _, _ => False
 | e, E, S, nk => Q e E S nk
theorem ds_scope {a : SC} (h : DPS p n a (scopeD Q) E S nk) : DPS p n (.scope a) Q E S nk := .mk fun Z β H F hS hE => swp_scope (swp_mono (h.run Z β H F hS hE) fun e F' H' ⟨E', S', nk', Z', β', h1, h2, h3⟩ => by
 cases e with
 | goto _ => exact h3.elim
 | _ => exact ⟨E', S', nk', Z', β', h1, h2, h3⟩)
end
end Go.Ab
