/- Contracts of functions of the program over the abstract semantics. -/
import Derived.Test.YtbjkifniloohcaaGreatAb10
import Derived.Shelf.SlSortCmp.WholeK
import Derived.Test.YtbjkifniloohcaaGreatProg
set_option linter.unusedVariables false
set_option linter.unusedSimpArgs false
namespace Go.Proofs
open Go.Shelf
def Tryz.sortPt_ren : Go.Shelf.Ren := ⟨fun|6 => 54|15 => 70|14 => 69|28 => 94|29 => 95|20 => 86|21 => 87|22 => 88|23 => 89|24 => 90|25 => 91|26 => 92|27 => 93|46 => 108|47 => 109|48 => 110|49 => 111|50 => 112|57 => 118|n => n, fun|22 => 32|24 => 51|25 => 53|3 => 3|39 => 104|0 => 0|53 => 122|55 => 124|4 => 4|46 => 116|45 => 115|50 => 89|5 => 5|9 => 9|66 => 131|70 => 135|76 => 141|77 => 142|n => n, fun|n => n⟩
theorem Tryz.sortPt : Go.Proofs.SlLaysF0.n6 Tryz.prog Tryz.sortPt_ren := {
 mixed := by kernel_rfl
 f6 := ⟨Tryz.f54.name, by decide, Tryz.func54.trans (congrArg some (by kernel_rfl))⟩
 f14 := ⟨Tryz.f69.name, by decide, Tryz.func69.trans (congrArg some (by kernel_rfl))⟩
 f15 := Tryz.func70.trans (congrArg some (by kernel_rfl))
 f20 := ⟨Tryz.f86.name, by decide, Tryz.func86.trans (congrArg some (by kernel_rfl))⟩
 f21 := ⟨Tryz.f87.name, by decide, Tryz.func87.trans (congrArg some (by kernel_rfl))⟩
 f22 := ⟨Tryz.f88.name, by decide, Tryz.func88.trans (congrArg some (by kernel_rfl))⟩
 f23 := ⟨Tryz.f89.name, by decide, Tryz.func89.trans (congrArg some (by kernel_rfl))⟩
 f24 := ⟨Tryz.f90.name, by decide, Tryz.func90.trans (congrArg some (by kernel_rfl))⟩
 f25 := ⟨Tryz.f91.name, by decide, Tryz.func91.trans (congrArg some (by kernel_rfl))⟩
 f26 := ⟨Tryz.f92.name, by decide, Tryz.func92.trans (congrArg some (by kernel_rfl))⟩
 f27 := ⟨Tryz.f93.name, by decide, Tryz.func93.trans (congrArg some (by kernel_rfl))⟩
 f28 := Tryz.func94.trans (congrArg some (by kernel_rfl))
 f29 := Tryz.func95.trans (congrArg some (by kernel_rfl))
 f46 := ⟨Tryz.f108.name, by decide, Tryz.func108.trans (congrArg some (by kernel_rfl))⟩
 f47 := Tryz.func109.trans (congrArg some (by kernel_rfl))
 f48 := Tryz.func110.trans (congrArg some (by kernel_rfl))
 f49 := ⟨Tryz.f111.name, by decide, Tryz.func111.trans (congrArg some (by kernel_rfl))⟩
 f50 := ⟨Tryz.f112.name, by decide, Tryz.func112.trans (congrArg some (by kernel_rfl))⟩
 f57 := ⟨Tryz.f118.name, by decide, Tryz.func118.trans (congrArg some (by kernel_rfl))⟩
 t0 := Tryz.underlying0
 a0 := Tryz.isAgg0
 z0 := Tryz.sizeOf0
 v0 := Tryz.zeroValue0
 t3 := Tryz.underlying3
 a3 := Tryz.isAgg3
 z3 := Tryz.sizeOf3
 v3 := Tryz.zeroValue3
 t4 := Tryz.underlying4
 a4 := Tryz.isAgg4
 z4 := Tryz.sizeOf4
 v4 := Tryz.zeroValue4
 t5 := Tryz.underlying5
 a5 := Tryz.isAgg5
 z5 := Tryz.sizeOf5
 v5 := Tryz.zeroValue5
 t9 := Tryz.underlying9
 a9 := Tryz.isAgg9
 z9 := Tryz.sizeOf9
 v9 := Tryz.zeroValue9
 t22 := Tryz.underlying32
 a22 := Tryz.isAgg32
 z22 := Tryz.sizeOf32
 v22 := Tryz.zeroValue32
 t25 := Tryz.underlying53
 a25 := Tryz.isAgg53
 z25 := Tryz.sizeOf53
 v25 := Tryz.zeroValue53
 t39 := Tryz.underlying104
 a39 := Tryz.isAgg104
 z39 := Tryz.sizeOf104
 v39 := Tryz.zeroValue104
 t45 := Tryz.underlying115
 a45 := Tryz.isAgg115
 z45 := Tryz.sizeOf115
 v45 := Tryz.zeroValue115
 t46 := Tryz.underlying116
 a46 := Tryz.isAgg116
 z46 := Tryz.sizeOf116
 v46 := Tryz.zeroValue116
 t50 := Tryz.underlying89
 a50 := Tryz.isAgg89
 z50 := Tryz.sizeOf89
 v50 := Tryz.zeroValue89
 t53 := Tryz.underlying122
 a53 := Tryz.isAgg122
 z53 := Tryz.sizeOf122
 v53 := Tryz.zeroValue122
 t55 := Tryz.underlying124
 a55 := Tryz.isAgg124
 z55 := Tryz.sizeOf124
 v55 := Tryz.zeroValue124
 t66 := Tryz.underlying131
 a66 := Tryz.isAgg131
 z66 := Tryz.sizeOf131
 v66 := Tryz.zeroValue131
 t70 := Tryz.underlying135
 a70 := Tryz.isAgg135
 z70 := Tryz.sizeOf135
 v70 := Tryz.zeroValue135
 t76 := Tryz.underlying141
 a76 := Tryz.isAgg141
 z76 := Tryz.sizeOf141
 v76 := Tryz.zeroValue141
 t77 := Tryz.underlying142
 a77 := Tryz.isAgg142
 z77 := Tryz.sizeOf142
 v77 := Tryz.zeroValue142 }
end Go.Proofs

namespace Go.Ab
open Go.Sort Go.Proofs
section
variable {P : Program} {G : Nat} {μ μ' : Nat -> Pl} {K K' : Nat -> Prop} {H H' : Hp} {w w' : World}
theorem Rel.congr (hR : Rel G μ K H w) (h : ∀ b bk, H.get b = some bk -> w'.heap[(μ b).blk]? = w.heap[(μ b).blk]?) : Rel G μ K H w' :=
 ⟨hR.dom, hR.lt, fun b bk hb => by rw [h b bk hb]; exact hR.blk b bk hb, hR.inj, hR.glob⟩
theorem Fr.quiet (h : Fr μ K H w μ' K' H' w') (hno : ∀ b bk, H.get b = some bk -> bk.mut = false) : ∃ q os', w' = Go.Sort.grow (w.drewN q) os' := by
 refine ⟨w'.drawn - w.drawn, w'.heap.extract w.heap.size w'.heap.size, ?_⟩
 have hheap : w'.heap = w.heap ++ w'.heap.extract w.heap.size w'.heap.size := by
  apply Array.ext_getElem?
  intro i
  by_cases hi : i < w.heap.size
  ·rw [Array.getElem?_append_left hi]
   exact h.keep i hi fun b bk hb hm => by rw [hno b bk hb] at hm; cases hm
  ·have := h.size
   rw [Array.getElem?_append_right (by omega)]
   by_cases hj : i < w'.heap.size
   ·rw [Array.getElem?_extract]
    simp
    rw [show w.heap.size + (i - w.heap.size) = i by omega]
    by_cases h2 : i - w.heap.size < w'.heap.size - w.heap.size
    ·simp [h2]
    ·omega
   ·rw [Array.getElem?_eq_none (by omega), Array.getElem?_eq_none (by simp; omega)]
 obtain ⟨h1, h2, h3, h4⟩ := h.same
 obtain ⟨hp, tp, dr, o, ou⟩ := w
 obtain ⟨hp', tp', dr', o', ou'⟩ := w'
 simp only [Go.Sort.grow, World.drewN] at *
 subst h1 h2 h3
 rw [<- hheap, show dr + (dr' - dr) = dr' by omega]
theorem ACalls.any {f : FuncId} {args : List V} {xs : List Value} {c : C} {x : Value} (h : ACalls P G f args ⟨.lf, G⟩ fun v _ => v = .one c) (hx : ∀ μ K, All2 (RV μ K) args xs) (hc : ∀ μ K y, RV μ K (.one c) y -> y = x) (W : World) : Calls P f xs.toArray W fun e w' => e = .returned x /\ ∃ q os', w' = Go.Sort.grow (W.drewN q) os' := by
 have hn : ∀ b bk, (⟨.lf, G⟩ : Hp).get b = some bk -> False := fun b bk hb => by simp [Hp.get] at hb
 have hR : Rel G (fun b => ⟨b, 0, 0⟩) (fun b => b < G) ⟨.lf, G⟩ W := ⟨fun b bk hb => (hn b bk hb).elim, fun _ h => h, fun b bk hb => (hn b bk hb).elim, fun b _ bk _ hb => (hn b bk hb).elim, fun g hg => ⟨hg, rfl, rfl⟩⟩
 refine (h _ _ W xs hR (hx _ _)).mono ?_
 rintro e w' ⟨y, rfl, v, H', μ', K', rfl, hy, _, hF⟩
 exact ⟨by rw [hc _ _ y hy], hF.quiet fun b bk hb => (hn b bk hb).elim⟩
theorem Rel.putRow (P : Program) (hR : Rel G μ K H w) {b o nb : Nat} {z : List C} {mm : T C} (hb : H.get b = some (.row nb z mm true)) {l : List C} (hst : H.stores b o l = some H') (hin : o + l.length <= nb) {F : Array Value} (hF : All2 (RC μ K) l F.toList) (m : Nat) (os : Array Obj) :
  Rel G μ K H' (Go.Sort.grow (Go.Sort.putRow id (Go.Sort.ahead w m) (μ b).blk ((μ b).off + o) F) os) /\ Fr μ K H w μ K H' (Go.Sort.grow (Go.Sort.putRow id (Go.Sort.ahead w m) (μ b).blk ((μ b).off + o) F) os) := by
 obtain ⟨cs, t, fz, h1, h2, h3, h4, h5⟩ := hR.blk b _ hb
 obtain rfl := h4 rfl
 obtain ⟨w1, hrun, hR1, hF1⟩ := Rel.stores (P := P) (i := 0) (o := o) hR (by simpa using hst) hF
 have hFl : F.toList.length = l.length := hF.len.symm
 obtain ⟨w2, cs', q1, q2, q3, q4, q5, q6, q7, q8, q9, _⟩ := store_conc (P := P) (g := (μ b).blk) (t := t) (xs := F.toList) (w := w) (cs := cs) (q := (μ b).off + o) (i := 0) h1 hF.oneC oM
 have hww : w1 = w2 := by
  have e : (storeCells ((μ b).addr o) F.toList 0).run P w = .ok () w2 := q1
  rw [hrun] at e
  cases e
  rfl
 subst hww
 have hcs : cs' = putCells id ((μ b).off + o) F cs := by
  apply Array.ext_getElem?
  intro j
  rw [q4 j]
  unfold putCells
  rw [Array.getElem?_mapIdx]
  have hs : F.size = F.toList.length := by simp
  split
  ·rename_i hj
   have hj' : j < cs.size := by omega
   rw [Array.getElem?_eq_getElem hj']
   simp only [Option.map_some]
   rw [if_pos (by omega)]
   have hk : j - ((μ b).off + o + 0) < F.size := by omega
   rw [List.getElem?_eq_getElem (by simpa using hk)]
   simp only [Nat.add_zero] at hk ⊢
   simp [getElem!_pos, hk]
  ·rename_i hj
   cases hcj : cs[j]? with
   | none => rfl
   | some y =>
    simp only [Option.map_some]
    rw [if_neg (by omega)]
 have key : ∀ i, i < w.heap.size -> (Go.Sort.grow (Go.Sort.putRow id (Go.Sort.ahead w m) (μ b).blk ((μ b).off + o) F) os).heap[i]? = w1.heap[i]? := fun i hi => by
  have hsz : (Go.Sort.putRow id (Go.Sort.ahead w m) (μ b).blk ((μ b).off + o) F).heap.size = w.heap.size := by simp [Go.Sort.ahead]
  unfold Go.Sort.grow
  simp only
  rw [Array.getElem?_append_left (by rw [hsz]; exact hi)]
  unfold Go.Sort.putRow mapBlock
  simp only [Go.Sort.ahead]
  rw [Array.getElem?_modify]
  by_cases e : (μ b).blk = i
  ·subst e
   rw [if_pos rfl, h1, q2, hcs]
   rfl
  ·rw [if_neg e, q5 i (fun h => e h.symm)]
 have hsize : (Go.Sort.grow (Go.Sort.putRow id (Go.Sort.ahead w m) (μ b).blk ((μ b).off + o) F) os).heap.size = w.heap.size + os.size := by simp [Go.Sort.grow, Go.Sort.ahead]
 refine ⟨hR1.congr fun b' bk' hb' => key _ (by have := hR1.blk_lt hb'; omega), ?_⟩
 exact ⟨⟨rfl, rfl, rfl, by simp [Go.Sort.grow, Go.Sort.ahead]⟩, by omega, fun i hi hn => (key i hi).trans (hF1.keep i hi hn), hF1.img, hF1.newmut, hF1.mu, hF1.kk, hF1.knew, hF1.nx, hF1.none, hF1.stay, hF1.ro⟩
end
end Go.Ab

namespace Go.Ad
open Go.Ab Go.Proofs
set_option linter.unusedSimpArgs false
def cmpP (a b : Pt2) : Int := if before a b = true then -1 else if a = b then 0 else 1
theorem noro : ∀ b bk, (⟨.lf, 0⟩ : Hp).get b = some bk -> bk.ro = some bk := fun b bk h => by simp [Hp.get] at h
theorem d_compare {a b : Pt2} {GH : Hp} (hG : ∀ b bk, GH.get b = some bk -> bk.ro = some bk) : DCalls Tryz.prog 0 GH 55 [ptD a, ptD b] fun d => d = .int (cmpP a b) := by
 refine dfn_ok cp55 rfl hG fun Z0 lo => ?_
 by_cases h1 : a.2 < b.2
 ·have g1 : decide (a.2 < b.2) = true := by simpa using h1
  repeat (first|refine dw_skip rfl rfl ?_|refine dw_skipU rfl ?_|refine dw_pickT rfl rfl ?_|refine dw_pB rfl aM ?_|refine dw_p rfl ?_|refine dw_l rfl ?_|refine dw_a rfl ?_|refine dw_nil ?_|refine ds_seq ?_|refine ds_ops mix (fun base => ?_)|refine ds_block ?_)
  refine ds_if rfl (fun ht => ?_) (fun ht => by cases ht)
  repeat (first|refine dw_p rfl ?_|refine dw_nil ?_|refine ds_seq ?_|refine ds_ops mix (fun base => ?_))
  exact ds_ret ⟨_, rfl, rfl, by simp [cmpP, before, h1]⟩
 ·have g1 : decide (a.2 < b.2) = false := by simpa using h1
  by_cases h2 : a.2 = b.2
  ·have g2 : (a.2 == b.2) = true := by simpa using h2
   repeat (first|refine dw_want rfl rfl ?_|refine dw_pickT rfl rfl ?_|refine dw_pickF rfl rfl ?_|refine dw_pB rfl aM ?_|refine dw_p rfl ?_|refine dw_l rfl ?_|refine dw_a rfl ?_|refine dw_nil ?_|refine ds_seq ?_|refine ds_ops mix (fun base => ?_)|refine ds_block ?_)
   refine ds_if rfl (fun ht => ?_) (fun ht => ?_)
   ·repeat (first|refine dw_p rfl ?_|refine dw_nil ?_|refine ds_seq ?_|refine ds_ops mix (fun base => ?_))
    have h3 : a.1 < b.1 := by simpa using ht
    exact ds_ret ⟨_, rfl, rfl, by simp [cmpP, before, h1, h2, h3]⟩
   ·have h3 : ¬ a.1 < b.1 := by simpa using ht
    repeat (first|refine dw_l rfl ?_|refine ds_seq ?_|refine ds_ops mix (fun base => ?_))
    refine dw_p (d_eqpt (p := a) (q := b) rfl rfl) ?_
    repeat (first|refine dw_p rfl ?_|refine dw_nil ?_)
    refine ds_if rfl (fun he => ?_) (fun he => ?_)
    ·have h4 : a = b := by simpa using he
     subst h4
     repeat (first|refine dw_p rfl ?_|refine dw_nil ?_|refine ds_seq ?_|refine ds_ops mix (fun base => ?_))
     exact ds_ret ⟨_, rfl, rfl, by simp [cmpP, before]⟩
    ·have h4 : ¬ a = b := by simpa using he
     repeat (first|refine dw_p rfl ?_|refine dw_nil ?_|refine ds_seq ?_|refine ds_ops mix (fun base => ?_)|refine ds_skip ?_)
     exact ds_ret ⟨_, rfl, rfl, by simp [cmpP, before, h1, h2, h3, h4]⟩
  ·have g2 : (a.2 == b.2) = false := by simpa using h2
   repeat (first|refine dw_want rfl rfl ?_|refine dw_skip rfl rfl ?_|refine dw_pickF rfl rfl ?_|refine dw_pB rfl aM ?_|refine dw_p rfl ?_|refine dw_l rfl ?_|refine dw_a rfl ?_|refine dw_nil ?_|refine ds_seq ?_|refine ds_ops mix (fun base => ?_)|refine ds_block ?_)
   refine ds_if rfl (fun ht => by cases ht) (fun _ => ?_)
   repeat (first|refine dw_l rfl ?_|refine ds_seq ?_|refine ds_ops mix (fun base => ?_))
   refine dw_p (d_eqpt (p := a) (q := b) rfl rfl) ?_
   repeat (first|refine dw_p rfl ?_|refine dw_nil ?_)
   have h4 : ¬ a = b := fun e => h2 (by rw [e])
   refine ds_if rfl (fun he => absurd (by simpa using he) h4) (fun he => ?_)
   repeat (first|refine dw_p rfl ?_|refine dw_nil ?_|refine ds_seq ?_|refine ds_ops mix (fun base => ?_)|refine ds_skip ?_)
   exact ds_ret ⟨_, rfl, rfl, by simp [cmpP, before, h1, h2, h4]⟩
open Go.Shelf Go.RowKit Go.Lib Go.Sort
def encPt (p : Pt2) : List Value := [.int .i64 p.1, .int .i64 p.2]
theorem sb_irrefl (x : Pt2) : before x x = false := by simp [before]
theorem sb_iff (x y : Pt2) : before x y = true ↔ x.2 < y.2 \/ (x.2 = y.2 /\ x.1 < y.1) := by
 unfold before
 by_cases h1 : x.2 < y.2
 ·simp [h1]
 ·by_cases h2 : x.2 = y.2
  ·simp [h2]
  ·simp [h1, h2]
theorem ltcmp (x y : Pt2) : ltOf cmpP x y = before x y := by
 unfold ltOf cmpP
 cases h : before x y with
 | true => simp
 | false =>
  simp only [Bool.false_eq_true, if_false]
  split <;> simp
theorem swo : SWO (ltOf cmpP) where
 irrefl x := by rw [ltcmp, sb_irrefl]
 trans x y z h1 h2 := by rw [ltcmp, sb_iff] at *; omega
 ntrans x y z h1 h2 := by
  rw [ltcmp, <- Bool.not_eq_true, sb_iff] at *; omega
theorem encPt_at : ∀ (l : List Pt2) (j : Nat), j < l.length * 2 -> (l.flatMap encPt)[j]? = some (encPt (l[j / 2]!))[j % 2]!
 | [], j, h => by simp at h
 | x :: l, 0, h => rfl
 | x :: l, 1, h => rfl
 | x :: l, j + 2, h => by
  have := encPt_at l j (by simp at h; omega)
  rw [show (j + 2) / 2 = j / 2 + 1 by omega, show (j + 2) % 2 = j % 2 by omega]
  simpa [encPt] using this
theorem flat_eq (l : List Pt2) : (flatK encPt 2 l.toArray).toList = l.flatMap encPt := by
 apply List.ext_getElem?
 intro j
 by_cases hj : j < l.length * 2
 ·rw [encPt_at l j hj]
  have h1 : j < (flatK encPt 2 l.toArray).size := by simpa using hj
  rw [List.getElem?_eq_getElem (by simpa using h1)]
  have := get_flatK encPt 2 l.toArray j (by simpa using hj)
  rw [getElem!_pos _ j h1] at this
  simp only [Array.getElem_toList]
  rw [this]
  simp
 ·rw [List.getElem?_eq_none (by simp; omega), List.getElem?_eq_none]
  have : ∀ m : List Pt2, (m.flatMap encPt).length = m.length * 2 := by
   intro m
   induction m with
   | nil => rfl
   | cons x m ih => show (encPt x ++ m.flatMap encPt).length = _; rw [List.length_append, ih]; simp [encPt]; omega
  rw [this]; omega
theorem all_enc {μ : Nat -> Pl} {K : Nat -> Prop} : ∀ l : List Pt2, All2 (RC μ K) (ptsC l) (l.flatMap encPt)
 | [] => trivial
 | x :: l => ⟨rfl, rfl, all_enc l⟩
def SortedP (l : List Pt2) : Prop := ∀ (i j : Nat) (x y : Pt2), l[i]? = some x -> l[j]? = some y -> i < j -> before y x = false
theorem ptsC_len (l : List Pt2) : (ptsC l).length = l.length * 2 := by
 induction l with
 | nil => rfl
 | cons x l ih => show (ptC x ++ ptsC l).length = _; rw [List.length_append, ih]; simp [ptC]; omega
theorem ptsC_at : ∀ (l : List Pt2) (j : Nat), j < l.length * 2 -> ∃ n : Int, (ptsC l)[j]? = some (.int .i64 n) /\ (l.flatMap encPt)[j]? = some (.int .i64 n)
 | [], j, h => by simp at h
 | x :: l, 0, h => ⟨x.1, rfl, rfl⟩
 | x :: l, 1, h => ⟨x.2, rfl, rfl⟩
 | x :: l, j + 2, h => by
  obtain ⟨n, h1, h2⟩ := ptsC_at l j (by simp at h; omega)
  exact ⟨n, by simpa [ptsC, ptC] using h1, by simpa [encPt] using h2⟩
structure CmpAt (k : FuncId) : Prop where
 eg : ∀ args w, (callFunc k args).run Tryz.prog w = .ok (.enter k args) w
 calls : ∀ (x y : Pt2) (W : World), Calls Tryz.prog k #[.agg (encPt x).toArray, .agg (encPt y).toArray] W fun e w' => e = .returned (.int .i64 (cmpP x y)) /\ ∃ q os', w' = Go.Sort.grow (W.drewN q) os'
theorem cmpAt {k : FuncId} (eg : ∀ args w, (callFunc k args).run Tryz.prog w = .ok (.enter k args) w) (h : ∀ a b : Pt2, DCalls Tryz.prog 0 ⟨.lf, 0⟩ k [ptD a, ptD b] fun d => d = .int (cmpP a b)) : CmpAt k := by
 refine ⟨eg, fun x y W => ?_⟩
 have h : ACalls Tryz.prog 0 k [.agg (ptC x), .agg (ptC y)] ⟨.lf, 0⟩ fun v _ => v = .one (.int .i64 (cmpP x y)) := by
  have := h x y ⟨.lf, 0⟩ (fun _ => False) [.agg (ptC x), .agg (ptC y)] (fun b bk h => by simp [Hp.get] at h) (fun _ h => h.elim) (fun b bk h => by simp [Hp.get] at h) ⟨⟨_, rfl, .c _ rfl, .c _ rfl, trivial⟩, ⟨_, rfl, .c _ rfl, .c _ rfl, trivial⟩, trivial⟩
  refine this.mono ?_
  rintro v H' ⟨_, _, _, d, hr, rfl⟩
  obtain ⟨c, rfl, hr⟩ := hr
  cases hr
  rfl
 exact ACalls.any (xs := [.agg (encPt x).toArray, .agg (encPt y).toArray]) h (fun μ K => ⟨⟨_, rfl, rfl, rfl, trivial⟩, ⟨_, rfl, rfl, rfl, trivial⟩, trivial⟩) (fun μ K y hy => hy) W
theorem cmp55 : CmpAt 55 := cmpAt (enters_of Tryz.func55 (by kernel_rfl) rfl) fun _ _ => d_compare noro
theorem sort_ok {k : FuncId} (hk : CmpAt k) {H : Hp} {l : List Pt2} {b o cap nb : Nat} {ex : Bool} {z : List C} {mm : T C} (hb : H.get b = some (.row nb z mm true)) (hin : o + l.length * 2 <= nb) (hld : H.loads b o (l.length * 2) = some (ptsC l)) (hpos : 0 < l.length) (hsz : l.length < 4611686018427387904) (hall : ∃ cells, Row H b cells) :
  ACalls Tryz.prog 0 54 [.one (.slc b o l.length cap 2 ex), .one (.fn k [])] H fun v H' => v = .tup [] /\ ∃ l' : List Pt2, l'.Perm l /\ SortedP l' /\ H.stores b o (ptsC l') = some H' := by
 intro μ K w xs hR ha
 match xs, ha with
 | [x1, x2], ⟨⟨hK, a, c, h1, h2, h3, h4, h5⟩, ⟨_, h6⟩, _⟩ =>
  subst h1 h6
  rcases h5 with h5|⟨rfl, h5⟩
  ·omega
  ·obtain ⟨cs, t, fz, e1, e2, e3, e4, e5⟩ := hR.blk b _ hb
   obtain rfl := e4 rfl
   have hblk : (μ b).blk < w.heap.size := hR.blk_lt hb
   have hH : HoldsK encPt 2 w (μ b).blk ((μ b).off + o) l.toArray := by
    intro j hj
    have hj' : j < l.length * 2 := by simpa using hj
    obtain ⟨n, g1, g2⟩ := ptsC_at l j hj'
    have hcell : H.cell b (o + j) = some (.int .i64 n) := by rw [<- g1]; exact loads_cell hld hj'
    have hcell' : (B.row nb z mm true).cell (o + j) = some (.int .i64 n) := by simpa [Hp.cell, hb] using hcell
    obtain ⟨x, k1, k2⟩ := e5 _ _ hcell'
    have k2 : x = .int .i64 n := k2
    subst k2
    refine ⟨?_, by simp [World.frozen?, e1]⟩
    have hf : (flatK encPt 2 l.toArray)[j]! = .int .i64 n := by
     have h7 : (flatK encPt 2 l.toArray).toList[j]? = some (.int .i64 n) := by rw [flat_eq]; exact g2
     rw [getElem!_pos _ j hj]
     have := List.getElem?_eq_some_iff.1 h7
     obtain ⟨_, this⟩ := this
     simpa using this
    rw [hf]
    simp only [World.cell?, e1]
    simpa [Nat.add_assoc] using k1
   have hcon := AnyQ.slices_SortFunc Tryz.sortPt 2 Tryz.isAgg51 Tryz.sizeOf51 encPt (fun _ => rfl) (fun x v hv => by simp [encPt] at hv; rcases hv with rfl|rfl <;> rfl) cmpP swo k #[] (μ b).blk ((μ b).off + o) c l.toArray w hk.eg (fun _ _ _ _ x y => hk.calls x y _) hH hblk (by simpa using hsz)
   have hcon' : Calls Tryz.prog 54 #[.slice (some ((μ b).addr o)) l.length c, .func (.func k) #[] #[]] w _ := hcon
   refine hcon'.mono ?_
   rintro e w' ⟨rfl, d', m, os, hp, hs, rfl⟩
   obtain ⟨p1, p2, p3⟩ := hp
   simp only [List.size_toArray] at p1
   have hperm : d'.toList.Perm l := by
    have e1 : (d'.extract 0 l.toArray.size).toList = d'.toList := by
     rw [show l.toArray.size = d'.size by simp [p1]]; simp
    have e2 : (l.toArray.extract 0 l.toArray.size).toList = l := by simp
    rw [e1, e2] at p3
    exact p3
   have hlen : d'.toList.length = l.length := hperm.length_eq
   obtain ⟨cells, hrow⟩ := hall
   have hcl : cells.length = nb := by
    obtain ⟨⟨z', m', hz⟩, _⟩ := hrow
    rw [hb] at hz
    exact (B.row.inj (Option.some.inj hz)).1.symm
   obtain ⟨H', s1, s2, s3, s4⟩ := hrow.stores (cs := ptsC d'.toList) (i := o) (by rw [ptsC_len, hlen]; omega)
   have hput := Rel.putRow Tryz.prog hR hb s1 (by rw [ptsC_len, hlen]; exact hin) (F := flatK encPt 2 d') (by
    have : (flatK encPt 2 d').toList = d'.toList.flatMap encPt := by
     have := flat_eq d'.toList
     simpa using this
    rw [this]; exact all_enc _) m os
   refine ⟨_, rfl, .tup [], H', μ, K, ⟨rfl, d'.toList, hperm, ?_, s1⟩, ⟨[], rfl, trivial⟩, hput.1, hput.2⟩
   intro i j x y hi hj hij
   have hji : j < d'.size := by simpa using (List.getElem?_eq_some_iff.1 hj).1
   have := hs i j (Nat.zero_le _) hij (by simp [<- p1]; exact hji)
   rw [ltcmp] at this
   have ex1 : d'[i]! = x := by
    rw [getElem!_pos _ i (by omega)]
    have := (List.getElem?_eq_some_iff.1 hi).2
    simpa using this
   have ey1 : d'[j]! = y := by
    rw [getElem!_pos _ j hji]
    have := (List.getElem?_eq_some_iff.1 hj).2
    simpa using this
   rw [ex1, ey1] at this
   exact this
end Go.Ad

namespace Go.Ad
open Go.Ab Go.Proofs
set_option linter.unusedSimpArgs false
theorem dk_ev {f : FuncId} {ds : List DV} {vs : List V} {c : C} {fuel : Nat} (hex : All2 (fun d v => exV d = some v) ds vs) (hcl : vs.all V.closed = true) (hc : c.closed = true) (h : evVal tab.get fuel f vs (H00 5) = some (.one c)) : DK f ds fun d => d = .one (.f (.c c)) := by
 refine DCalls.of_pure hex hc fun H hH => ?_
 have hg : ∀ b bk, (H00 5).get b = some bk -> False := by
  intro b bk h
  simp [Hp.get] at h
 exact (ACalls.sub (H := H) (evVal_ok mix tabOk h) hcl (by decide) (fun b bk h => (hg b bk h).elim) (fun b bk h => (hg b bk h).elim) (fun v _ h => by rw [h]; exact hc)).mono fun v H' ⟨⟨_, h⟩, e⟩ => ⟨h, e⟩
theorem d_len0 : DK 70 [.one (.f (.c (.int .u64 0)))] fun d => d = .one (.f (.c (.int .i64 0))) := dk_ev (vs := [.one (.int .u64 0)]) (fuel := 100) ⟨rfl, trivial⟩ rfl rfl (by kernel_rfl)
abbrev noPts : DV := .one (.f (.sl 2 0 []))
abbrev fnK (k : FuncId) : DV := .one (.f (.c (.fn k [])))
abbrev fn55 : DV := fnK 55
theorem d_ins0 : DK 86 [noPts, .int 0, .int 0, fn55] fun d => d = .tup [] := by
 refine dfn_ok cp86 rfl GHro fun Z0 lo => ?_
 repeat (first|refine dw_p rfl ?_|refine dw_nil ?_|refine ds_seq ?_|refine ds_ops mix (fun base => ?_)|refine ds_block ?_)
 refine ds_loop (fun m E S nk => E = [(2, .int 0), (8, .int 1)] /\ S = [] /\ nk = 0) ⟨0, _, _, _, [], ?wk, rfl, rfl, rfl⟩ ?_
 case wk => exact wkA
 rintro m E S nk ⟨rfl, rfl, rfl⟩
 repeat (first|refine dw_p rfl ?_|refine dw_nil ?_|refine ds_seq ?_|refine ds_ops mix (fun base => ?_))
 refine ds_if rfl (fun ht => by cases ht) (fun _ => ?_)
 repeat (first|refine ds_exit ?_)
 exact ⟨_, rfl, rfl, rfl⟩
theorem d_pdq0 : DK 69 [noPts, .int 0, .int 0, .int 0, fn55] fun d => d = .tup [] := by
 refine dfn_ok cp69 rfl GHro fun Z0 lo => ?_
 repeat (first|refine dw_p rfl ?_|refine dw_nil ?_|refine ds_seq ?_|refine ds_ops mix (fun base => ?_)|refine ds_block ?_)
 refine ds_loop (fun m E S nk => E = [(0, noPts), (1, .int 0), (2, .int 0), (3, .int 0), (4, fn55)] /\ S = [] /\ nk = 0) ⟨0, _, _, _, [], ?wk, rfl, rfl, rfl⟩ ?_
 case wk => exact wkA
 rintro m E S nk ⟨rfl, rfl, rfl⟩
 repeat (first|refine dw_p rfl ?_|refine dw_nil ?_|refine ds_seq ?_|refine ds_ops mix (fun base => ?_)|refine ds_block ?_)
 refine ds_if rfl (fun _ => ?_) (fun ht => by cases ht)
 repeat (first|refine dw_p rfl ?_|refine ds_seq ?_|refine ds_ops mix (fun base => ?_))
 refine dw_cf rfl rfl d_ins0 ?_
 rintro _ rfl
 repeat (first|refine dw_nil ?_)
 exact ds_ret ⟨_, rfl, rfl, rfl⟩
theorem d_sort0 : DK 54 [noPts, fn55] fun d => d = .tup [] := by
 refine dfn_ok cp54 rfl GHro fun Z0 lo => ?_
 repeat (first|refine dw_p rfl ?_|refine dw_nil ?_|refine ds_seq ?_|refine ds_ops mix (fun base => ?_))
 refine dw_cf rfl rfl d_len0 ?_
 rintro _ rfl
 repeat (first|refine dw_p rfl ?_)
 refine dw_cf rfl rfl d_pdq0 ?_
 rintro _ rfl
 repeat (first|refine dw_nil ?_)
 exact ⟨_, rfl, rfl, rfl⟩
theorem ptF_C {Z : Nat -> Prop} {H : Hp} : ∀ {l : List Pt2} {cs : List C}, All2 (RF Z H) (l.flatMap ptF) cs -> cs = ptsC l
 | [], [], _ => rfl
 | [], _ :: _, h => h.elim
 | x :: l, cs, h => by
  match cs, h with
  | c1 :: c2 :: cs, ⟨h1, h2, h3⟩ =>
   cases h1; cases h2
   rw [ptF_C (l := l) h3]
   rfl
  | [_], h => exact h.2.elim
  | [], h => exact h.elim
theorem ptC_F {Z : Nat -> Prop} {H : Hp} : ∀ l : List Pt2, All2 (RF Z H) (l.flatMap ptF) (ptsC l)
 | [] => trivial
 | x :: l => ⟨.c _ rfl, .c _ rfl, ptC_F l⟩
noncomputable abbrev parK (Z0 : Nat -> Prop) (lo anc : Nat) (β0 : Beta) (H1 : Hp) : Par := ⟨Tryz.prog, 0, H00 1, Z0, lo, anc, β0, H1, none⟩
abbrev DKX (f : FuncId) (ds : List DV) (S : Bx) (nk : Nat) (R : DV -> Bx -> Nat -> Prop) : Prop := ∀ Z0 lo anc β0 H1, DX (parK Z0 lo anc β0 H1) f ds S nk R
theorem dxk_ok {f : FuncId} {sf : SFn} (hf : cpFn Tryz.prog 0 f = some sf) {ds : List DV} {S : Bx} {nk : Nat} {R : DV -> Bx -> Nat -> Prop} (hn : Nat.ble ds.length sf.n = true)
  (h : ∀ Z β H lo, DPS (parK Z lo nk β H) sf.n sf.code (retO (parK Z lo nk β H) sf.res R) (argsD ds 0) S nk) : DKX f ds S nk R := fun Z0 lo anc β0 H1 => dx_ok (p := parK Z0 lo anc β0 H1) hf hn fun Z β H => h Z β H lo
theorem dx_sortK {g : FuncId} (hg : CmpAt g) {k nk : Nat} {l : List Pt2} {S : Bx} (hk : lk S k = some (.data (l.flatMap ptF))) (hpos : 0 < l.length) (hsz : l.length < 1000000000000) : DKX 54 [.one (.own k 0 l.length 2), fnK g] S nk fun d S' nk' => d = .tup [] /\ nk' = nk /\ ∃ l' : List Pt2, l'.Perm l /\ SortedP l' /\ S' = put k (.data (l'.flatMap ptF)) S := by
 intro Z0 lo anc β0 H1 Z β H args hS ha
 match args, ha with
 | [v1, v2], ⟨h1, h2, _⟩ =>
  obtain ⟨c1, rfl, h1⟩ := h1
  obtain ⟨c2, rfl, h2⟩ := h2
  cases h2
  rcases h1 with ⟨_, h1, _⟩|⟨b, N, cap, ex, hb, rfl, hcap, hN⟩
  ·omega
  ·obtain ⟨s, hs, hbx⟩ := hS.box (k, 0) _ (lk2_of hk rfl)
   rw [hb] at hs
   obtain rfl := Option.some.inj hs
   obtain ⟨hz, hlo, hlt, cs, rest, hrow, hNl, hrel⟩ := hbx
   have hrow : Row H b (cs ++ rest) := hrow
   have hNl : (cs ++ rest).length = N := hNl
   obtain rfl := ptF_C hrel
   obtain ⟨⟨z, mm, hget⟩, hld⟩ := hrow
   have hin : 0 + l.length * 2 <= (ptsC l ++ rest).length := by rw [List.length_append, ptsC_len]; omega
   have hld' : H.loads b 0 (l.length * 2) = some (ptsC l) := by
    have := loads_take hld (m := l.length * 2) (by rw [List.length_append, ptsC_len]; omega)
    rw [this, List.take_append_of_le_length (by rw [ptsC_len]; omega), List.take_of_length_le (by rw [ptsC_len]; omega)]
   refine (sort_ok hg hget hin hld' hpos oM ⟨_, ⟨z, mm, hget⟩, hld⟩).mono ?_
   rintro v H' ⟨rfl, l', hp, hso, hst⟩
   have hl' : l'.length = l.length := hp.length_eq
   obtain ⟨H2, e1, e2, e3, e4⟩ := Row.stores (cs := ptsC l') (i := 0) ⟨⟨z, mm, hget⟩, hld⟩ (by rw [List.length_append, ptsC_len, ptsC_len]; omega)
   rw [hst] at e1
   obtain rfl := Option.some.inj e1
   rw [setL_app (ptsC l') (ptsC l) rest 0 (by rw [ptsC_len, ptsC_len]; omega)] at e2
   have hset : setL (ptsC l) 0 (ptsC l') = ptsC l' := by
    have := dsetL_mid [] (ptsC l) (ptsC l') [] (by rw [ptsC_len, ptsC_len, hl'])
    simpa using this
   rw [hset] at e2
   obtain ⟨hS', hZ⟩ := hS.upd (x' := .data (l'.flatMap ptF)) (cs := ptsC l') (rest := rest) hk rfl hb (ptC_F l') e3 e4 rfl e2 (by rw [<- hNl, List.length_append, List.length_append, ptsC_len, ptsC_len, hl'])
   exact ⟨.tup [], _, _, Z, β, hS', ⟨[], rfl, trivial⟩, hZ, fun _ _ h => h, rfl, rfl, l', hp, hso, rfl⟩
theorem dx_sort {k nk : Nat} {l : List Pt2} {S : Bx} (hk : lk S k = some (.data (l.flatMap ptF))) (hpos : 0 < l.length) (hsz : l.length < 1000000000000) : DKX 54 [.one (.own k 0 l.length 2), fn55] S nk fun d S' nk' => d = .tup [] /\ nk' = nk /\ ∃ l' : List Pt2, l'.Perm l /\ SortedP l' /\ S' = put k (.data (l'.flatMap ptF)) S := dx_sortK cmp55 hk hpos hsz
theorem ds_own0 {p : Par} {n : Nat} {Q : Exit -> DEnv -> Bx -> Nat -> Prop} {E : DEnv} {S : Bx} {nk : Nat} {s : SC} (t : Nat) {k esz : Nat} (ht : lk E t = some (.one (.own k 0 0 esz))) (h : DPS p n s Q ((t, .one (.f (.sl esz 0 []))) :: E) S nk) : DPS p n s Q E S nk := .mk fun Z β H F hS hE => by
 refine h.run Z β H F hS fun m d hd => ?_
 rw [lk_cons] at hd
 split at hd
 ·rename_i e; subst e
  obtain rfl := Option.some.inj hd
  obtain ⟨v, hv, c, rfl, hr⟩ := hE _ _ ht
  refine ⟨_, hv, _, rfl, ?_⟩
  rcases hr with ⟨_, _, _, rfl⟩|⟨b, N, cap, ex, _, rfl, _, _⟩
  ·exact RF.nil esz
  ·exact RF.sl (cs := []) (fun h => by simp at h) (by simp) (Nat.zero_le _) (by simp [Hp.loads]) (fun i d c h => by simp at h)
 ·exact hE m d hd
theorem before_iff {a b : Pt2} : before a b = true ↔ a.2 < b.2 \/ (a.2 = b.2 /\ a.1 < b.1) := by
 unfold before
 by_cases h1 : a.2 < b.2
 ·simp [h1]
 ·by_cases h2 : a.2 = b.2
  ·simp [h1, h2]
  ·simp [h1, h2]
abbrev ByRows (l : List Pt2) : Prop := l.Pairwise fun a b => before a b = true
theorem before_trans {a b c : Pt2} (h1 : before a b = true) (h2 : before b c = true) : before a c = true := by
 rw [before_iff] at *; omega
theorem before_irrefl {a : Pt2} : ¬ before a a = true := by rw [before_iff]; omega
theorem before_total {a b : Pt2} (h : ¬ before a b = true) (hne : a ≠ b) : before b a = true := by
 rw [before_iff] at *
 have : ¬ (a.1 = b.1 /\ a.2 = b.2) := fun h => hne (Prod.ext h.1 h.2)
 omega
theorem ByRows.ext : ∀ {l m : List Pt2}, ByRows l -> ByRows m -> (∀ p, p ∈ l ↔ p ∈ m) -> l = m
 | [], [], _, _, _ => rfl
 | [], b :: m, _, _, h => by have := (h b).2 (by simp); simp at this
 | a :: l, [], _, _, h => by have := (h a).1 (by simp); simp at this
 | a :: l, b :: m, hl, hm, h => by
  rw [ByRows, List.pairwise_cons] at hl hm
  have hab : a = b := by
   rcases List.mem_cons.1 ((h a).1 (by simp)) with e|e
   ·exact e
   ·rcases List.mem_cons.1 ((h b).2 (by simp)) with e'|e'
    ·exact e'.symm
    ·exact absurd (before_trans (hl.1 b e') (hm.1 a e)) before_irrefl
  subst hab
  congr 1
  refine ByRows.ext hl.2 hm.2 fun p => ?_
  constructor
  ·intro hp
   rcases List.mem_cons.1 ((h p).1 (by simp [hp])) with e|e
   ·subst e; exact absurd (hl.1 p hp) before_irrefl
   ·exact e
  ·intro hp
   rcases List.mem_cons.1 ((h p).2 (by simp [hp])) with e|e
   ·subst e; exact absurd (hm.1 p hp) before_irrefl
   ·exact e
theorem posR_spec (x : Pt2) (out : List Pt2) : ∀ n, n <= out.length -> (∀ j z, posR x out n <= j -> j < n -> out[j]? = some z -> before x z = true) /\ (∀ z, 0 < posR x out n -> out[posR x out n - 1]? = some z -> ¬ before x z = true)
 | 0, _ => ⟨fun j z h1 h2 => by omega, fun z h => by simp [posR] at h⟩
 | n + 1, hn => by
  obtain ⟨z, hz⟩ : ∃ z, out[n]? = some z := ⟨_, List.getElem?_eq_getElem oM⟩
  have ih := posR_spec x out n oM
  have e : posR x out (n + 1) = if before x z = true then posR x out n else n + 1 := by simp only [posR, hz]
  rw [e]
  by_cases hb : before x z = true
  ·rw [if_pos hb]
   refine ⟨fun j y h1 h2 hy => ?_, ih.2⟩
   by_cases hj : j = n
   ·subst hj; rw [hz] at hy; obtain rfl := Option.some.inj hy; exact hb
   ·exact ih.1 j y h1 oM hy
  ·rw [if_neg hb]
   refine ⟨fun j y h1 h2 => oM, fun y _ hy => ?_⟩
   rw [Nat.add_sub_cancel, hz] at hy
   obtain rfl := Option.some.inj hy
   exact hb
theorem insP_ok {x : Pt2} {out : List Pt2} (ho : ByRows out) (hx : x ∉ out) : ByRows (insP x out) := by
 obtain ⟨h1, h2⟩ := posR_spec x out out.length (Nat.le_refl _)
 have hp := posR_le x out out.length
 generalize hP : posR x out out.length = P at h1 h2 hp
 have hsplit : out = out.take P ++ out.drop P := (List.take_append_drop P out).symm
 have hlow : ∀ z ∈ out.take P, before z x = true := fun z hz => by
  obtain ⟨j, hj⟩ := List.getElem?_of_mem hz
  rw [List.getElem?_take] at hj
  split at hj
  ·rename_i hjP
   have hP1 : P - 1 < out.length := by omega
   have hnb := h2 out[P - 1] oM (List.getElem?_eq_getElem hP1)
   have hb := before_total hnb (fun e => hx (by rw [e]; exact List.getElem_mem hP1))
   by_cases hj1 : j = P - 1
   ·subst hj1; rw [List.getElem?_eq_getElem hP1] at hj; obtain rfl := Option.some.inj hj; exact hb
   ·have hjl : j < out.length := by omega
    rw [List.getElem?_eq_getElem hjl] at hj
    obtain rfl := Option.some.inj hj
    exact before_trans (List.pairwise_iff_getElem.1 ho j (P - 1) hjl hP1 oM) hb
  ·cases hj
 have hhigh : ∀ z ∈ out.drop P, before x z = true := fun z hz => by
  obtain ⟨j, hj⟩ := List.getElem?_of_mem hz
  rw [List.getElem?_drop] at hj
  exact h1 (P + j) z oM (List.getElem?_eq_some_iff.1 hj).1 hj
 rw [hsplit, ByRows, List.pairwise_append] at ho
 rw [insP, hP, ByRows, List.append_assoc, List.pairwise_append]
 refine ⟨ho.1, ?_, fun a ha b hb => ?_⟩
 ·simp only [List.singleton_append, List.pairwise_cons]
  exact ⟨hhigh, ho.2.1⟩
 ·simp only [List.singleton_append, List.mem_cons] at hb
  rcases hb with rfl|hb
  ·exact hlow a ha
  ·exact ho.2.2 a ha b hb
theorem insP_mem {x p : Pt2} {out : List Pt2} : p ∈ insP x out ↔ p = x \/ p ∈ out := by
 simp only [insP, List.mem_append, List.mem_singleton]
 constructor
 ·rintro ((h|h)|h)
  ·exact .inr (List.mem_of_mem_take h)
  ·exact .inl h
  ·exact .inr (List.mem_of_mem_drop h)
 ·rintro (h|h)
  ·exact .inl (.inr h)
  ·rw [<- List.take_append_drop (posR x out out.length) out, List.mem_append] at h
   exact h.elim (fun h => .inl (.inl h)) .inr
theorem addP_ok {x : Pt2} {out : List Pt2} (ho : ByRows out) : ByRows (addP out x) := by
 unfold addP
 split
 ·exact ho
 ·exact insP_ok ho aM
theorem addP_mem {x p : Pt2} {out : List Pt2} : p ∈ addP out x ↔ p = x \/ p ∈ out := by
 unfold addP
 split
 ·rename_i h
  exact ⟨.inr, fun h' => h'.elim (fun e => e ▸ h) fun h => h⟩
 ·exact insP_mem
theorem sortedP_go : ∀ (l out : List Pt2), ByRows out -> ByRows (l.foldl addP out) /\ ∀ p, p ∈ l.foldl addP out ↔ p ∈ out \/ p ∈ l
 | [], out, h => ⟨h, by simp⟩
 | x :: l, out, h => by
  obtain ⟨h1, h2⟩ := sortedP_go l (addP out x) (addP_ok h)
  refine ⟨h1, fun p => ?_⟩
  rw [List.foldl_cons, h2, addP_mem, List.mem_cons]
  constructor
  ·rintro ((h|h)|h)
   ·exact .inr (.inl h)
   ·exact .inl h
   ·exact .inr (.inr h)
  ·rintro (h|h|h)
   ·exact .inl (.inr h)
   ·exact .inl (.inl h)
   ·exact .inr h
theorem sortedP_rows (l : List Pt2) : ByRows (sortedP l) := (sortedP_go l [] List.Pairwise.nil).1
theorem sortedP_mem {l : List Pt2} {p : Pt2} : p ∈ sortedP l ↔ p ∈ l := by rw [sortedP, (sortedP_go l [] List.Pairwise.nil).2]; simp
end Go.Ad

namespace Go.Ab
section
variable {p : Par} {n : Nat} {Q : Exit -> DEnv -> Bx -> Nat -> Prop} {E : DEnv} {S : Bx} {nk : Nat}
theorem ds_virtD {s : SC} (kb i esz : Nat) {l : List DC} (hk : lk S kb = some (.cells l)) (hi : l[i]? = some (.f (.c .nils))) (h : DPS p n s Q E ((nk, .data []) :: put kb (.cells (l.set i (.own nk 0 0 esz))) S) (nk + 1)) : DPS p n s Q E S nk := .mk fun Z β H F hS hE => by
 have hT := virt_ok hS
 have hB : BLe β (updB β nk .nil) := hS.ble .nil
 have hkn := hS.lt hk
 have hkT : lk ((nk, .data []) :: S) kb = some (.cells l) := by rw [lk_cons, if_neg (by omega)]; exact hk
 refine h.run Z _ H F ?_ (hE.mono (ZLe.refl Z H) hB)
 have hput : ∀ j, lk ((nk, .data []) :: put kb (.cells (l.set i (.own nk 0 0 esz))) S) j = lk (put kb (.cells (l.set i (.own nk 0 0 esz))) ((nk, .data []) :: S)) j := fun j => by
  simp only [put, beq_ne (show nk ≠ kb by omega)]
 refine ⟨hT.wf, hT.lo, hT.z, hT.zlo, hT.zz, hT.glob, hT.nk, hT.bd, fun κ y hκ => ?_, fun κ κ' y y' b N N' hj hj' => ?_, hT.blo, hT.anch, hT.ancn⟩
 ·rw [lk2_congr (hput κ.1), lk2_put hkT rfl] at hκ
  split at hκ
  ·rename_i e
   split at hκ
   ·rename_i e2
    obtain rfl := key_eq e e2
    obtain rfl := Option.some.inj hκ
    obtain ⟨s, hs, hbx⟩ := hT.box (kb, 0) _ (lk2_of hkT rfl)
    refine ⟨s, hs, ?_⟩
    cases s with
    | nil =>
     have : l = [] := List.eq_nil_of_length_eq_zero hbx
     subst this; cases hi
    | blk b N =>
     obtain ⟨g1, g2, g3, cs, rest, g4, g5, g6⟩ := hbx
     refine ⟨g1, g2, g3, cs, rest, g4, g5, ?_⟩
     obtain ⟨c, hc, hr⟩ := All2.at g6 i _ hi
     cases hr
     have hset : cs.set i .nils = cs := by
      refine List.ext_getElem? fun j => ?_
      rw [List.getElem?_set]
      split
      ·rename_i ej; subst ej; rw [hc]; first|rfl|rw [if_pos (List.getElem?_eq_some_iff.1 hc).1]
      ·rfl
     show All2 _ _ _
     rw [<- hset]
     exact All2.set g6 i (.inl ⟨updB_self _ _ _, rfl, rfl, rfl⟩)
   ·cases hκ
  ·exact hT.box κ y hκ
 ·rw [hput] at hj hj'
  rw [lk_put] at hj hj'
  have f : ∀ a z, (if a = kb then Option.map (fun _ => Bk.cells (l.set i (.own nk 0 0 esz))) (lk ((nk, .data []) :: S) a) else lk ((nk, .data []) :: S) a) = some z -> ∃ z', lk ((nk, .data []) :: S) a = some z' := fun a z hz => by
   split at hz
   ·cases hl : lk ((nk, .data []) :: S) a with
    | none => rw [hl] at hz; cases hz
    | some q => exact ⟨q, rfl⟩
   ·exact ⟨z, hz⟩
  obtain ⟨z1, e1⟩ := f κ.1 y hj
  obtain ⟨z2, e2⟩ := f κ'.1 y' hj'
  exact hT.inj κ κ' z1 z2 b N N' e1 e2
end
end Go.Ab

namespace Go.Ad
open Go.Ab Go.Proofs
set_option linter.unusedSimpArgs false
def ptV (p : Pt2) : V := .agg [.int .i64 p.1, .int .i64 p.2]
def stF : Nat -> List Pt2 -> List (V × V × Nat)
 | _, [] => []
 | i, p :: l => (ptV p, .one (.bool true), i) :: stF (i + 1) l
abbrev stE (l : List Pt2) : List (V × V × Nat) := stF 0 l
def mapB (l : List Pt2) : Bk := .mp (.st (stE l) l.length) []
theorem stF_snoc (p : Pt2) : ∀ (l : List Pt2) (i : Nat), stF i (l ++ [p]) = stF i l ++ [(ptV p, .one (.bool true), i + l.length)]
 | [], i => rfl
 | q :: l, i => by rw [List.cons_append, stF, stF_snoc p l, stF, List.cons_append, List.length_cons, show i + 1 + l.length = i + (l.length + 1) by omega]
theorem stF_mem {e : V × V × Nat} : ∀ {l : List Pt2} {i : Nat}, e ∈ stF i l ↔ ∃ (j : Nat) (p : Pt2), l[j]? = some p /\ e = (ptV p, .one (.bool true), i + j)
 | [], i => by simp [stF]
 | q :: l, i => by
  rw [stF, List.mem_cons, stF_mem]
  constructor
  ·rintro (rfl|⟨j, p, h1, rfl⟩)
   ·exact ⟨0, q, rfl, rfl⟩
   ·exact ⟨j + 1, p, h1, by rw [show i + 1 + j = i + (j + 1) by omega]⟩
  ·rintro ⟨j, p, h1, rfl⟩
   cases j with
   | zero => left; rw [<- Option.some.inj h1]; rfl
   | succ j => right; exact ⟨j, p, h1, by rw [show i + 1 + j = i + (j + 1) by omega]⟩
theorem ptEq_pt (p q : Pt2) : ptEq [.int .i64 p.1, .int .i64 p.2] (ptV q) = some (decide (p = q)) := by
 obtain ⟨a, b⟩ := p
 obtain ⟨c, d⟩ := q
 simp only [ptEq, ptV, and_self, if_true]
 congr 1
 by_cases h1 : a = c
 ·by_cases h2 : b = d
  ·simp [h1, h2]
  ·simp [h1, h2]
 ·simp [h1]
theorem sfind_pt (p : Pt2) : ∀ (l : List Pt2) (i j : Nat), (p ∉ l /\ sfind [.int .i64 p.1, .int .i64 p.2] (stF j l) i = some none) \/ ∃ k, l[k]? = some p /\ sfind [.int .i64 p.1, .int .i64 p.2] (stF j l) i = some (some (i + k))
 | [], i, j => .inl ⟨by simp, rfl⟩
 | q :: l, i, j => by
  rw [stF, sfind, ptEq_pt]
  by_cases h : p = q
  ·subst h
   right
   exact ⟨0, rfl, by simp⟩
  ·rw [decide_eq_false h]
   simp only
   rcases sfind_pt p l (i + 1) (j + 1) with ⟨h1, h2⟩|⟨k, h1, h2⟩
   ·exact .inl ⟨by simp [h, h1], h2⟩
   ·exact .inr ⟨k + 1, h1, by rw [h2, show i + 1 + k = i + (k + 1) by omega]⟩
theorem sset_same {e : List (V × V × Nat)} {k : Nat} {v : V} {x : V × V × Nat} (h : e[k]? = some x) (hv : x.2.1 = v) : sset e k v = e := by
 refine List.ext_getElem? fun j => ?_
 rw [sset, List.getElem?_modify]
 split
 ·rename_i hkj
  subst hkj
  rw [h]
  subst hv
  rfl
 ·simp
theorem stF_at {p : Pt2} : ∀ {l : List Pt2} {i k : Nat}, l[k]? = some p -> (stF i l)[k]? = some (ptV p, .one (.bool true), i + k)
 | [], _, _, h => by simp at h
 | q :: l, i, 0, h => by rw [<- Option.some.inj h]; rfl
 | q :: l, i, k + 1, h => by
  have := stF_at (l := l) (i := i + 1) (k := k) h
  rw [stF, List.getElem?_cons_succ, this, show i + 1 + k = i + (k + 1) by omega]
def putP (l : List Pt2) (p : Pt2) : List Pt2 := if p ∈ l then l else l ++ [p]
theorem stUp_pt (l : List Pt2) (p : Pt2) : stUp (stE l) l.length [.int .i64 p.1, .int .i64 p.2] (.bool true) = some (stE (putP l p), (putP l p).length) := by
 unfold stUp
 rw [show isPtL [.int .i64 p.1, .int .i64 p.2] = true from rfl]
 rcases sfind_pt p l 0 0 with ⟨h1, h2⟩|⟨k, h1, h2⟩
 ·rw [h2, putP, if_neg h1]
  show _ = some (stF 0 (l ++ [p]), (l ++ [p]).length)
  rw [stF_snoc, Nat.zero_add, List.length_append]
  rfl
 ·rw [h2, putP, if_pos (List.mem_of_getElem? h1), Nat.zero_add]
  simp only
  rw [sset_same (stF_at h1) rfl]
theorem putP_nodup {l : List Pt2} {p : Pt2} (h : l.Nodup) : (putP l p).Nodup := by
 unfold putP
 split
 ·exact h
 ·rename_i hn
  rw [List.nodup_append]
  exact ⟨h, by simp, fun a ha b hb => by
   rw [List.mem_singleton] at hb
   subst hb
   rintro rfl
   exact hn ha⟩
theorem putP_mem {l : List Pt2} {p q : Pt2} : q ∈ putP l p ↔ q ∈ l \/ q = p := by
 unfold putP
 split
 ·rename_i h
  constructor
  ·exact .inl
  ·rintro (h1|rfl)
   ·exact h1
   ·exact h
 ·simp
theorem stF_find {st : Nat} {p : Pt2} : ∀ {l : List Pt2} {i : Nat}, l[st]? = some p -> (stF i l).find? (fun e => e.2.2 == i + st) = some (ptV p, .one (.bool true), i + st) := by
 induction st with
 | zero =>
  intro l i h
  cases l with
  | nil => cases h
  | cons q l =>
   rw [<- Option.some.inj h, stF, List.find?_cons]
   simp
 | succ st ih =>
  intro l i h
  cases l with
  | nil => cases h
  | cons q l =>
   have := ih (l := l) (i := i + 1) h
   rw [stF, List.find?_cons]
   simp only [show (i == i + (st + 1)) = false by simp]
   rw [show i + 1 + st = i + (st + 1) by omega] at this
   exact this
structure Seen (l : List Pt2) (seen : List Nat) (out : List Pt2) : Prop where
 nd : seen.Nodup
 lt : ∀ i ∈ seen, i < l.length
 out : out.map some = seen.map (l[·]?)
theorem Seen.nil (l : List Pt2) : Seen l [] [] := ⟨List.nodup_nil, fun i h => (by cases h), rfl⟩
theorem Seen.step {l out : List Pt2} {seen : List Nat} {i : Nat} {p : Pt2} (h : Seen l seen out) (hi : l[i]? = some p) (hn : i ∉ seen) : Seen l (seen ++ [i]) (out ++ [p]) := by
 refine ⟨?_, fun j hj => ?_, ?_⟩
 ·rw [List.nodup_append]
  exact ⟨h.nd, by simp, fun a ha b hb => by
   rw [List.mem_singleton] at hb
   subst hb
   rintro rfl
   exact hn ha⟩
 ·rcases List.mem_append.1 hj with hj|hj
  ·exact h.lt j hj
  ·rw [List.mem_singleton] at hj
   subst hj
   exact (List.getElem?_eq_some_iff.1 hi).1
 ·rw [List.map_append, List.map_append, h.out]
  simp [hi]
theorem Seen.len {l out : List Pt2} {seen : List Nat} (h : Seen l seen out) : out.length = seen.length := by
 have := congrArg List.length h.out
 simpa using this
theorem nodup_le : ∀ (n : Nat) (s : List Nat), s.Nodup -> (∀ i ∈ s, i < n) -> s.length <= n
 | 0, s, _, h => by
  cases s with
  | nil => simp
  | cons a s => exact absurd (h a (by simp)) (by omega)
 | n + 1, s, hn, h => by
  have h1 := nodup_le n (s.filter (· ≠ n)) (hn.filter _) fun i hi => by
   rw [List.mem_filter] at hi
   have := h i hi.1
   have h2 : i ≠ n := by simpa using hi.2
   omega
  have h2 : s.length <= (s.filter (· ≠ n)).length + 1 := by
   clear h1 h
   induction s with
   | nil => simp
   | cons a s ih =>
    rw [List.nodup_cons] at hn
    by_cases ha : a = n
    ·subst ha
     have : s.filter (· ≠ a) = s := List.filter_eq_self.2 fun x hx => by
      have : x ≠ a := fun e => hn.1 (e ▸ hx)
      simpa using this
     rw [List.filter_cons_of_neg (by simp), this]
     simp
    ·rw [List.filter_cons_of_pos (by simpa using ha), List.length_cons, List.length_cons]
     have := ih hn.2
     omega
  omega
theorem Seen.le {l out : List Pt2} {seen : List Nat} (h : Seen l seen out) : out.length <= l.length := by
 rw [h.len]; exact nodup_le _ _ h.nd h.lt
theorem Seen.mem {l out : List Pt2} {seen : List Nat} (h : Seen l seen out) (hall : ∀ i, i < l.length -> i ∈ seen) (p : Pt2) : p ∈ out ↔ p ∈ l := by
 have h1 : p ∈ out ↔ some p ∈ out.map some := by simp
 rw [h1, h.out]
 constructor
 ·intro hp
  obtain ⟨i, _, hi⟩ := List.mem_map.1 hp
  exact List.mem_of_getElem? hi
 ·intro hp
  obtain ⟨i, hi⟩ := List.getElem?_of_mem hp
  exact List.mem_map.2 ⟨i, hall i (List.getElem?_eq_some_iff.1 hi).1, hi⟩
theorem Seen.nodup : ∀ {out : List Pt2} {l : List Pt2} {seen : List Nat}, l.Nodup -> Seen l seen out -> out.Nodup := by
 intro out l seen hl h
 rw [List.nodup_iff_pairwise_ne, List.pairwise_iff_getElem]
 intro i j hi hj hij he
 have hlen := h.len
 have hx : ∀ k (hk : k < out.length), l[seen[k]'oM]? = some out[k] := fun k hk => by
  have := congrArg (fun z => z[k]?) h.out
  simp only [List.getElem?_map, List.getElem?_eq_getElem hk, List.getElem?_eq_getElem (show k < seen.length by omega), Option.map_some, Option.some.injEq] at this
  exact this.symm
 have h1 := hx i hi
 have h2 := hx j hj
 rw [he] at h1
 have h4 : seen[i]'oM = seen[j]'oM := by
  have e1 := (List.getElem?_eq_some_iff.1 h1)
  have e2 := (List.getElem?_eq_some_iff.1 h2)
  obtain ⟨l1, e1⟩ := e1
  obtain ⟨l2, e2⟩ := e2
  exact (List.getElem_inj hl).1 (e1.trans e2.symm)
 have := (List.getElem_inj h.nd).1 h4
 omega
def kx (rec it : Bk) (l out : List Pt2) : Bx := [(0, mapB l), (1, .cells [.om 0]), (2, .cells [.own 6 0 out.length 2]), (6, .data (out.flatMap ptF)), (4, rec), (5, it)]
theorem yl_pt {p : Par} (hp : p.P = Tryz.prog) (hG : p.G = 0) {q : Pt2} {l out : List Pt2} {it : Bk} (hn : out.length < 1000000) {fid : FuncId} {sg bd : Code} (hsg : cpCode Tryz.prog 0 f113.n sg = some (.ops f113r2 0)) (hbd : cpCode Tryz.prog 0 f113.n bd = some f113b0)
  {base rs : Nat} {Q : DEnv -> Bx -> Nat -> Prop} {r : List SOper} {A : List Nat} {E : DEnv} {S : Bx} {nk : Nat} {id : Nat} {dst : Option Nat} {aid : Option Nat} {ws : List Nat} {keep : Bool} {x y : Opd}
  (hnk : nk = 8) (hS : SubA (kx (.mp (.lp .ready none fid f113.n [2] [7] sg bd) [.ptr 2 0]) it l out) S)
  (hx : ro E x = some (.one (.yl 4))) (hvs : ros E [y] = some [ptD q]) (hT : noT E = true)
  (h : DPW p base 0 Q r [] A (setD E dst (.bool true)) [(0, mapB l), (1, .cells [.om 0]), (2, .cells [.own 10 0 (out ++ [q]).length 2]), (10, .data ((out ++ [q]).flatMap ptF)), (4, .mp (.lp .ready none fid f113.n [2] [7] sg bd) [.ptr 2 0]), (5, it)] 11) :
  DPW p base rs Q (⟨id, dst, .cv x [y], none, aid, ws, keep⟩ :: r) [] A E S nk := by
 subst hnk
 have h4 : lk S 4 = some (.mp (.lp .ready none fid f113.n [2] [7] sg bd) [.ptr 2 0]) := hS 4 _ rfl
 refine dw_yl (R := fun d S' nk' => d = .bool true /\ SubA [(0, mapB l), (1, .cells [.om 0]), (2, .cells [.own 10 0 (out ++ [q]).length 2]), (10, .data ((out ++ [q]).flatMap ptF)), (4, .mp (.lp .ready none fid f113.n [2] [7] sg bd) [.ptr 2 0]), (5, it)] S' /\ nk' = 11) hx hvs h4 rfl rfl hT (by rw [hp, hG]; exact hsg) (by rw [hp, hG]; exact hbd) (fun ρ Z β H => ?_) (by rintro _ _ _ ⟨rfl, hs, rfl⟩; exact dw_keep (SubA.refl _) hs h)
 have mixp : (p.round ρ Z 8 β H).P.follows .mixedOrders = true := by show p.P.follows _ = _; rw [hp]; exact mix
 refine ds_keep (E0 := [(2, .one (.ptr 2 0)), (7, ptD q)]) (S0 := kx (.mp (.lp .ready none fid f113.n [2] [7] sg bd) [.ptr 2 0]) it l out) (SubA.cons rfl (SubA.cons rfl (SubA.nil _))) hS ?_
 have hfl := ptF_len out
 refine ds_ops mixp (fun base => ?_)
 repeat (first|refine dw_a rfl ?_|refine dw_st rfl rfl rfl rfl rfl (Nat.le_of_ble_eq_true rfl) rfl ?_|refine dw_nil ?_)
 refine ⟨rfl, _, _, _, _, _, _, _, _, _, rfl, rfl, ?_⟩
 refine ds_block ?_
 refine ds_ops mixp (fun base => ?_)
 repeat (first|refine dw_l rfl ?_|refine dw_a rfl ?_)
 refine dw_app (q := ptF q) rfl rfl rfl (subL_all _ hfl) ⟨rfl, rfl, _, rfl, rfl⟩ oM oM (by decide) rfl ?_
 rw [show out.flatMap ptF ++ ptF q = (out ++ [q]).flatMap ptF by simp, show out.length + 1 = (out ++ [q]).length by simp]
 repeat (first|refine dw_st rfl rfl rfl rfl rfl (Nat.le_of_ble_eq_true rfl) rfl ?_|refine dw_nil ?_)
 exact ⟨_, _, _, _, _, _, _, _, _, rfl, rfl, SubA.cons rfl (SubA.cons rfl (SubA.cons rfl (SubA.cons rfl (SubA.cons rfl (SubA.cons rfl (SubA.nil _)))))), rfl⟩
set_option maxHeartbeats 4000000 in
theorem x_keys {l : List Pt2} (hl : l.Nodup) (hn : l.length < 1000000) {fid : FuncId} {sg bd : Code} (hsg : cpCode Tryz.prog 0 f113.n sg = some (.ops f113r2 0)) (hbd : cpCode Tryz.prog 0 f113.n bd = some f113b0) :
  DKX 98 [.one (.yl 4), .one (.ptr 1 0)] [(0, mapB l), (1, .cells [.om 0]), (2, .cells [.own 3 0 0 2]), (3, .data []), (4, .mp (.lp .ready none fid f113.n [2] [7] sg bd) [.ptr 2 0])] 5
  fun _ S' nk' => ∃ out : List Pt2, out.Nodup /\ (∀ p, p ∈ out ↔ p ∈ l) /\ out.length <= l.length /\ SubA [(0, mapB l), (1, .cells [.om 0]), (2, .cells [.own 6 0 out.length 2]), (6, .data (out.flatMap ptF)), (4, .mp (.lp .ready none fid f113.n [2] [7] sg bd) [.ptr 2 0])] S' /\ nk' = 7 := by
 refine dxk_ok cp98 rfl fun Z β H lo => ?_
 repeat (first|refine dw_l rfl ?_|refine ds_seq ?_|refine ds_ops mix (fun base => ?_))
 refine dw_rng rfl rfl ?_
 repeat (first|refine dw_nil ?_|refine ds_block ?_)
 refine ds_loop (fun m E S nk => ∃ (seen : List Nat) (out : List Pt2) (last : Nat), seen.length + m = l.length /\ Seen l seen out /\ l.length <= last /\ E = [(0, .one (.yl 4)), (5, .one (.ptr 5 0))] /\ S = kx (.mp (.lp .ready none fid f113.n [2] [7] sg bd) [.ptr 2 0]) (.mp (.it l.length seen last) [.om 0]) l out /\ nk = 7)
  ⟨l.length, _, _, _, [(6, 3)], ?wk, [], [], l.length, by simp, Seen.nil l, Nat.le_refl _, rfl, rfl, rfl⟩ ?_
 case wk => exact wkA
 rintro m E S nk ⟨seen, out, last, hm, hsn, hla, rfl, rfl, rfl⟩
 have hole := hsn.le
 repeat (first|refine ds_seq ?_|refine ds_ops mix (fun base => ?_))
 refine dw_nx rfl rfl rfl (fun e he => ?_) hla rfl (fun hall => ?_) (fun e he hno => ?_)
 ·obtain ⟨j, p, h1, rfl⟩ := stF_mem.1 he
  have := (List.getElem?_eq_some_iff.1 h1).1
  simp only; omega
 ·repeat (first|refine dw_p rfl ?_|refine dw_nil ?_|refine ds_seq ?_)
  refine ds_if (t := false) rfl (fun ht => by cases ht) (fun _ => ?_)
  repeat (first|refine ds_exit ?_)
  refine ⟨_, rfl, rfl, _, SubA.refl _, out, hsn.nodup hl, hsn.mem fun i hi => ?_, hole, SubA.cons rfl (SubA.cons rfl (SubA.cons rfl (SubA.cons rfl (SubA.cons rfl (SubA.nil _))))), rfl⟩
  obtain ⟨p, hp⟩ : ∃ p, l[i]? = some p := ⟨_, List.getElem?_eq_getElem hi⟩
  have := hall _ (stF_mem.2 ⟨i, p, hp, rfl⟩)
  simpa using this
 ·obtain ⟨i, p, hp, rfl⟩ := stF_mem.1 he
  rw [Nat.zero_add] at hno ⊢
  simp only at hno ⊢
  have hfd := stF_find (i := 0) hp
  rw [Nat.zero_add] at hfd
  repeat (first|refine dw_p rfl ?_|refine dw_nil ?_|refine ds_seq ?_)
  refine ds_if (t := true) rfl (fun _ => ?_) (fun ht => by cases ht)
  repeat (first|refine ds_seq ?_|refine ds_ops mix (fun base => ?_)|refine ds_skip ?_|refine ds_block ?_)
  refine dw_ent rfl rfl rfl rfl hfd rfl rfl ?_
  repeat (first|refine dw_p rfl ?_|refine dw_l rfl ?_|refine dw_a rfl ?_|refine dw_st rfl rfl rfl rfl rfl (Nat.le_of_ble_eq_true rfl) rfl ?_|refine dw_nil ?_|refine ds_seq ?_|refine ds_ops mix (fun base => ?_))
  have hle2 := (hsn.step hp hno).le
  have hln2 := hsn.len
  rw [List.length_append, List.length_singleton] at hle2
  refine yl_pt rfl rfl (q := p) (l := l) (out := out) (it := .mp (.it l.length (seen ++ [i]) l.length) [.om 0]) oM hsg hbd rfl (SubA.cons rfl (SubA.cons rfl (SubA.cons rfl (SubA.cons rfl (SubA.cons rfl (SubA.cons rfl (SubA.nil _))))))) rfl rfl rfl ?_
  repeat (first|refine dw_p rfl ?_|refine dw_nil ?_)
  refine ds_if (t := false) rfl (fun ht => by cases ht) (fun _ => ?_)
  repeat (first|refine ds_skip ?_)
  refine ⟨m - 1, by omega, _, _, _, [(6, 10)], ?wk2, seen ++ [i], out ++ [p], l.length, by rw [List.length_append, List.length_singleton]; omega, hsn.step hp hno, Nat.le_refl _, rfl, rfl, rfl⟩
  case wk2 => exact wkA
theorem DX.sub {p : Par} {f : FuncId} {ds : List DV} {S S0 : Bx} {nk : Nat} {R : DV -> Bx -> Nat -> Prop} (h : DX p f ds S0 nk R) (hs : SubA S0 S) : DX p f ds S nk R := fun Z β H args hS ha => h Z β H args (hS.keepS hs) ha
theorem x_app {l : List Pt2} (hl : l.Nodup) (hn : l.length < 1000000) : DKX 113 [.one (.f (.c .nils)), .one (.fn 98 [(1, 0)])] [(0, mapB l), (1, .cells [.om 0])] 2
  fun d S' nk' => ∃ out : List Pt2, out.Nodup /\ (∀ p, p ∈ out ↔ p ∈ l) /\ d = .one (.own 6 0 out.length 2) /\ out.length <= l.length /\ SubA [(6, .data (out.flatMap ptF))] S' /\ nk' = 7 := by
 refine dxk_ok cp113 rfl fun Z β H lo => ?_
 repeat (first|refine dw_p rfl ?_|refine dw_a rfl ?_|refine dw_nil ?_|refine ds_seq ?_|refine ds_ops mix (fun base => ?_)|refine ds_block ?_)
 refine ds_virtD 2 0 2 rfl rfl ?_
 refine ds_rf rfl [2] rfl (by show isFn Tryz.prog 98 = true; kernel_rfl) rfl rfl (fun fid sg bd hsg hbd => ?_)
 refine DX.sub (S0 := [(0, mapB l), (1, .cells [.om 0]), (2, .cells [.own 3 0 0 2]), (3, .data []), (4, .mp (.lp .ready none fid f113.n [2] [7] sg bd) [.ptr 2 0])]) ((x_keys hl hn hsg hbd _ _ _ _ _).mono ?_) (SubA.cons rfl (SubA.cons rfl (SubA.cons rfl (SubA.cons rfl (SubA.cons rfl (SubA.nil _))))))
 rintro _ S' nk' ⟨out, h1, h2, h3, h4, rfl⟩
 refine ⟨_, _, _, _, _, _, _, _, _, h4 4 _ rfl, by simp, ?_⟩
 have h5 : SubA [(2, .cells [.own 6 0 out.length 2]), (6, .data (out.flatMap ptF))] (era 4 S') := SubA.cons (((lk_era _ _ _).trans (if_neg (by decide))).trans (h4 2 _ rfl)) (SubA.cons (((lk_era _ _ _).trans (if_neg (by decide))).trans (h4 6 _ rfl)) (SubA.nil _))
 refine ds_keep (E0 := [(2, .one (.ptr 2 0))]) (SubA.cons rfl (SubA.nil _)) h5 ?_
 repeat (first|refine dw_p rfl ?_|refine dw_l rfl ?_|refine dw_nil ?_|refine ds_seq ?_|refine ds_ops mix (fun base => ?_))
 exact ds_ret ⟨_, rfl, rfl, _, SubA.refl _, out, h1, h2, rfl, h3, SubA.cons rfl (SubA.nil _), rfl⟩
theorem x_coll {l : List Pt2} (hl : l.Nodup) (hn : l.length < 1000000) : DKX 97 [.one (.fn 98 [(1, 0)])] [(0, mapB l), (1, .cells [.om 0])] 2
  fun d S' nk' => ∃ out : List Pt2, out.Nodup /\ (∀ p, p ∈ out ↔ p ∈ l) /\ d = .one (.own 6 0 out.length 2) /\ out.length <= l.length /\ SubA [(6, .data (out.flatMap ptF))] S' /\ nk' = 7 := by
 refine dxk_ok cp97 rfl fun Z β H lo => ?_
 repeat (first|refine dw_p rfl ?_|refine dw_nil ?_|refine ds_seq ?_|refine ds_ops mix (fun base => ?_))
 refine dw_cx rfl rfl rfl (x_app hl hn _ _ _ _ _) ?_
 rintro _ S' _ ⟨out, h1, h2, rfl, h3, h4, rfl⟩
 refine dw_keep (SubA.refl _) h4 ?_
 repeat (first|refine dw_p rfl ?_|refine dw_nil ?_)
 exact ds_ret ⟨_, rfl, rfl, _, SubA.refl _, out, h1, h2, rfl, h3, SubA.refl _, rfl⟩
theorem x_mkeys (l : List Pt2) : DKX 74 [.one (.om 0)] [(0, mapB l)] 1 fun d S' nk' => d = .one (.fn 98 [(1, 0)]) /\ SubA [(0, mapB l), (1, .cells [.om 0])] S' /\ nk' = 2 := by
 refine dxk_ok cp74 rfl fun Z β H lo => ?_
 repeat (first|refine dw_p rfl ?_|refine dw_a rfl ?_|refine dw_nil ?_|refine ds_seq ?_|refine ds_ops mix (fun base => ?_))
 exact ds_ret ⟨_, rfl, rfl, _, SubA.refl _, rfl, SubA.cons rfl (SubA.cons rfl (SubA.nil _)), rfl⟩
theorem d_nan (a : Int) : DK 96 [.int a] fun d => d = .bool false := by
 refine dfn_ok cp96 rfl GHro fun Z0 lo => ?_
 repeat (first|refine dw_p rfl ?_|refine dw_nil ?_|refine ds_seq ?_|refine ds_ops mix (fun base => ?_))
 refine ds_ret ⟨_, rfl, rfl, ?_⟩
 simp
def cmpI (a b : Int) : Int := if a < b then -1 else if b < a then 1 else 0
theorem d_cmpI (a b : Int) : DK 77 [.int a, .int b] fun d => d = .int (cmpI a b) := by
 refine dfn_ok cp77 rfl GHro fun Z0 lo => ?_
 repeat (first|refine dw_p rfl ?_|refine dw_nil ?_|refine ds_seq ?_|refine ds_ops mix (fun base => ?_))
 refine dw_cf rfl rfl (d_nan a) ?_
 rintro _ rfl
 repeat (first|refine dw_p rfl ?_|refine dw_nil ?_|refine ds_seq ?_|refine ds_ops mix (fun base => ?_))
 refine dw_cf rfl rfl (d_nan b) ?_
 rintro _ rfl
 repeat (first|refine dw_p rfl ?_|refine dw_nil ?_|refine ds_seq ?_|refine ds_ops mix (fun base => ?_))
 refine ds_if rfl (fun ht => by cases ht) (fun _ => ?_)
 repeat (first|refine dw_p rfl ?_|refine dw_nil ?_|refine ds_seq ?_|refine ds_ops mix (fun base => ?_)|refine ds_skip ?_)
 refine ds_if rfl (fun ht => by cases ht) (fun _ => ?_)
 repeat (first|refine dw_p rfl ?_|refine dw_nil ?_|refine ds_seq ?_|refine ds_ops mix (fun base => ?_)|refine ds_skip ?_)
 refine ds_if rfl (fun ht => ?_) (fun ht => ?_)
 ·have h : a < b := by simpa using ht
  repeat (first|refine dw_p rfl ?_|refine dw_nil ?_|refine ds_seq ?_|refine ds_ops mix (fun base => ?_))
  exact ds_ret ⟨_, rfl, rfl, by rw [cmpI, if_pos h]⟩
 ·have h : ¬ a < b := by simpa using ht
  repeat (first|refine dw_p rfl ?_|refine dw_nil ?_|refine ds_seq ?_|refine ds_ops mix (fun base => ?_)|refine ds_skip ?_)
  refine ds_if rfl (fun ht => ?_) (fun ht => ?_)
  ·have h2 : b < a := by simpa using ht
   repeat (first|refine dw_p rfl ?_|refine dw_nil ?_|refine ds_seq ?_|refine ds_ops mix (fun base => ?_))
   exact ds_ret ⟨_, rfl, rfl, by rw [cmpI, if_neg h, if_pos h2]⟩
  ·have h2 : ¬ b < a := by simpa using ht
   repeat (first|refine dw_p rfl ?_|refine dw_nil ?_|refine ds_seq ?_|refine ds_ops mix (fun base => ?_)|refine ds_skip ?_)
   exact ds_ret ⟨_, rfl, rfl, by rw [cmpI, if_neg h, if_neg h2]⟩
theorem d_or (a b : Int) : DK 76 [.one (.f (.sl 1 2 [.c (.int .i64 a), .c (.int .i64 b)]))] fun d => d = .int (if a = 0 then b else a) := by
 refine dfn_ok cp76 rfl GHro fun Z0 lo => ?_
 repeat (first|refine dw_p rfl ?_|refine dw_nil ?_|refine ds_seq ?_|refine ds_ops mix (fun base => ?_)|refine ds_block ?_)
 refine ds_loop (fun k E S nk => ∃ i : Nat, i + k = 2 /\ (i = 1 -> a = 0) /\ (i = 2 -> a = 0 /\ b = 0) /\ E = [(3, .int 0), (6, .one (.f (.sl 1 2 [.c (.int .i64 a), .c (.int .i64 b)]))), (7, .int 2), (8, .int i)] /\ S = [] /\ nk = 0) ⟨2, _, _, _, [], ?wk, 0, rfl, by simp, by simp, rfl, rfl, rfl⟩ ?_
 case wk => exact wkA
 rintro k E S nk ⟨i, hi, h1, h2, rfl, rfl, rfl⟩
 have e0 : subL [FD.c (.int .i64 a), FD.c (.int .i64 b)] (0 * 1) 1 = some [.c (.int .i64 a)] := rfl
 have e1 : subL [FD.c (.int .i64 a), FD.c (.int .i64 b)] (1 * 1) 1 = some [.c (.int .i64 b)] := rfl
 match i, hi with
 | 0, _ =>
  repeat (first|refine dw_p rfl ?_|refine dw_nil ?_|refine ds_seq ?_|refine ds_ops mix (fun base => ?_))
  refine ds_if rfl (fun _ => ?_) (fun ht => by cases ht)
  repeat (first|refine dw_p rfl ?_|refine dw_l rfl ?_|refine dw_if0 rfl rfl oM (by decide) aM ?_|refine dw_nil ?_|refine ds_seq ?_|refine ds_ops mix (fun base => ?_)|refine ds_skip ?_|refine ds_block ?_)
  refine ds_if rfl (fun ht => ?_) (fun ht => ?_)
  ·have h : ¬ a = 0 := by simpa using ht
   repeat (first|refine dw_p rfl ?_|refine dw_nil ?_|refine ds_seq ?_|refine ds_ops mix (fun base => ?_))
   exact ds_ret ⟨_, rfl, rfl, by rw [if_neg h]⟩
  ·have h : a = 0 := by simpa using ht
   repeat (first|refine dw_p rfl ?_|refine dw_nil ?_|refine ds_ops mix (fun base => ?_)|refine ds_skip ?_)
   refine ⟨k - 1, by omega, _, _, _, [], ?wk1, 1, by omega, fun _ => h, by simp, rfl, rfl, rfl⟩
   case wk1 => exact wkA
 | 1, _ =>
  have h := h1 rfl
  repeat (first|refine dw_p rfl ?_|refine dw_nil ?_|refine ds_seq ?_|refine ds_ops mix (fun base => ?_))
  refine ds_if rfl (fun _ => ?_) (fun ht => by cases ht)
  repeat (first|refine dw_p rfl ?_|refine dw_l rfl ?_|refine dw_if rfl rfl oM (by decide) aM ?_|refine dw_nil ?_|refine ds_seq ?_|refine ds_ops mix (fun base => ?_)|refine ds_skip ?_|refine ds_block ?_)
  refine ds_if rfl (fun ht => ?_) (fun ht => ?_)
  ·repeat (first|refine dw_p rfl ?_|refine dw_nil ?_|refine ds_seq ?_|refine ds_ops mix (fun base => ?_))
   exact ds_ret ⟨_, rfl, rfl, by rw [if_pos h]⟩
  ·have h' : b = 0 := by simpa using ht
   repeat (first|refine dw_p rfl ?_|refine dw_nil ?_|refine ds_ops mix (fun base => ?_)|refine ds_skip ?_)
   refine ⟨k - 1, by omega, _, _, _, [], ?wk2, 2, by omega, by simp, fun _ => ⟨h, h'⟩, rfl, rfl, rfl⟩
   case wk2 => exact wkA
 | 2, _ =>
  obtain ⟨h, h'⟩ := h2 rfl
  repeat (first|refine dw_p rfl ?_|refine dw_nil ?_|refine ds_seq ?_|refine ds_ops mix (fun base => ?_))
  refine ds_if rfl (fun ht => by cases ht) (fun _ => ?_)
  repeat (first|refine dw_p rfl ?_|refine dw_nil ?_|refine ds_seq ?_|refine ds_ops mix (fun base => ?_)|refine ds_exit ?_)
  exact ds_ret ⟨_, rfl, rfl, by rw [if_pos h, h']⟩
 | i + 3, h => omega
theorem cmpI_or (a b : Pt2) : (if cmpI a.2 b.2 = 0 then cmpI a.1 b.1 else cmpI a.2 b.2) = cmpP a b := by
 obtain ⟨a1, a2⟩ := a
 obtain ⟨b1, b2⟩ := b
 unfold cmpI cmpP before
 rcases Int.lt_trichotomy a2 b2 with h|h|h
 ·have h1 : ¬ b2 < a2 := by omega
  simp [h]
 ·subst h
  rcases Int.lt_trichotomy a1 b1 with h|h|h
  ·simp [h]
  ·subst h; simp
  ·have h1 : ¬ a1 < b1 := by omega
   have h2 : ¬ a1 = b1 := by omega
   simp [h, h1, h2]
 ·have h1 : ¬ a2 < b2 := by omega
  have h2 : ¬ a2 = b2 := by omega
  simp [h, h1, h2]
theorem d_cmp75 (a b : Pt2) : DK 75 [ptD a, ptD b] fun d => d = .int (cmpP a b) := by
 refine dfn_ok cp75 rfl GHro fun Z0 lo => ?_
 repeat (first|refine dw_p rfl ?_|refine dw_l rfl ?_|refine dw_lk rfl ?_|refine dw_a rfl ?_|refine dw_nil ?_|refine ds_seq ?_|refine ds_ops mix (fun base => ?_))
 refine dw_cf rfl rfl (d_cmpI a.2 b.2) ?_
 rintro _ rfl
 skip
 refine dw_cf rfl rfl (d_cmpI a.1 b.1) ?_
 rintro _ rfl
 repeat (first|refine dw_ai rfl rfl rfl ?_)
 refine dw_cfo (ds := [.one (.f (.sl 1 2 [.c (.int .i64 (cmpI a.2 b.2)), .c (.int .i64 (cmpI a.1 b.1))]))]) rfl ⟨⟨_, rfl, _, _, rfl, rfl, rfl⟩, trivial⟩ (d_or (cmpI a.2 b.2) (cmpI a.1 b.1)) (by rintro _ rfl; rfl) ?_
 rintro _ rfl
 repeat (first|refine dw_p rfl ?_|refine dw_nil ?_)
 refine ds_ret ⟨_, rfl, rfl, ?_⟩
 rw [cmpI_or]
theorem cmp75 : CmpAt 75 := cmpAt (enters_of Tryz.func75 (by kernel_rfl) rfl) fun a b => d_cmp75 a b
abbrev DKO (f : FuncId) (ds : List DV) (R : DV -> Bx -> Nat -> Prop) : Prop := DCallsO Tryz.prog 0 (H00 1) f ds R
def side (w : Int) : Int := min (max w 0) 200
theorem dw_nilf {p : Par} {base rs : Nat} {Q : DEnv -> Bx -> Nat -> Prop} {r : List SOper} {W : Wt} {A : List Nat} {E : DEnv} {S : Bx} {nk : Nat} {id : Nat} {dst : Option Nat} {aid : Option Nat} {ws : List Nat} {keep neg : Bool} {x : Opd} {e n : Nat} {l : List FD} (hx : ro E x = some (.one (.f (.sl e n l))))
  (h1 : n = 0 -> l = [] -> DPW p base rs Q r W A (setD E dst (.bool !neg)) S nk) (h2 : DPW p base rs Q r W A (setD E dst (.bool neg)) S nk) : DPW p base rs Q (⟨id, dst, .p (.nileq neg x), none, aid, ws, keep⟩ :: r) W A E S nk := .mk fun Z β H F c hS hE hC hA => by
 obtain ⟨cx, hcx, hr⟩ := ro_ok hE hx
 simp only [wOps, wantedA, if_true]
 cases hr with
 | nil =>
  simp only [aPure, hcx]
  exact (h1 rfl rfl).run Z β H _ c hS (hE.set dst (exact_ok rfl)) hC hA
 | sl =>
  simp only [aPure, hcx]
  exact h2.run Z β H _ c hS (hE.set dst (exact_ok rfl)) hC hA
theorem do_clone {l : List Pt2} (hn : l.length < 1000000000) : DKO 53 [ptsD l] fun d S nk => ∃ k, (k = 0 \/ k = 1) /\ d = .one (.own k 0 l.length 2) /\ S = [(k, .data (l.flatMap ptF))] /\ nk = k + 1 := by
 refine dfnO_ok cp53 rfl GHro fun Z0 lo => ?_
 repeat (first|refine dw_p rfl ?_|refine dw_nil ?_|refine ds_seq ?_|refine ds_ops mix (fun base => ?_))
 refine dw_nilf rfl (fun h0 _ => ?_) ?_
 ·have : l = [] := by simpa using h0
  subst this
  repeat (first|refine dw_nil ?_)
  refine ds_if rfl (fun _ => ?_) (fun h => by cases h)
  repeat (first|refine dw_p rfl ?_|refine dw_nil ?_|refine ds_seq ?_|refine ds_ops mix (fun base => ?_))
  refine ds_virt 2 2 rfl ?_
  exact ds_ret ⟨_, rfl, rfl, _, SubA.refl _, 0, .inl rfl, rfl, rfl, rfl⟩
 ·repeat (first|refine dw_nil ?_)
  refine ds_if rfl (fun h => by cases h) (fun _ => ?_)
  repeat (first|refine dw_p rfl ?_|refine dw_a rfl ?_|refine ds_seq ?_|refine ds_ops mix (fun base => ?_)|refine ds_skip ?_)
  refine dw_app rfl rfl rfl rfl ⟨rfl, rfl, rfl⟩ oM oM (by decide) rfl ?_
  repeat (first|refine dw_p rfl ?_|refine dw_nil ?_)
  refine ds_ret ⟨_, rfl, rfl, [(1, .data (l.flatMap ptF))], SubA.cons (k := 1) rfl (SubA.nil _), 1, .inr rfl, ?_, rfl, rfl⟩
  simp
def iF (x : Int) : FD := .c (.int .i64 x)
def intsD (l : List Int) : DV := .one (.f (.sl 1 l.length (l.map iF)))
theorem iF_at {l : List Int} {i : Nat} {x : Int} (h : l[i]? = some x) : subL (l.map iF) (i * 1) 1 = some [iF x] := by
 have hi : i < l.length := (List.getElem?_eq_some_iff.1 h).1
 rw [subL_of (by simp; omega)]
 rw [Nat.mul_one, List.drop_eq_getElem_cons (by simpa using hi)]
 have : l[i] = x := (List.getElem?_eq_some_iff.1 h).2
 simp [this]
theorem d_nan72 {a : Int} : DK 96 [.int a] fun d => d = .bool false := by
 refine dfn_ok cp96 rfl GHro fun Z0 lo => ?_
 repeat (first|refine dw_p rfl ?_|refine dw_nil ?_|refine ds_seq ?_|refine ds_ops mix (fun base => ?_))
 exact ds_ret ⟨_, rfl, rfl, by simp⟩
theorem d_nan60 {a : Int} : DK 72 [.int a] fun d => d = .bool false := by
 refine dfn_ok cp72 rfl GHro fun Z0 lo => ?_
 repeat (first|refine dw_p rfl ?_|refine dw_nil ?_|refine ds_seq ?_|refine ds_ops mix (fun base => ?_))
 exact ds_ret ⟨_, rfl, rfl, by simp⟩
theorem d_less {a b : Int} : DK 71 [.int a, .int b] fun d => d = .bool (decide (a < b)) := by
 refine dfn_ok cp71 rfl GHro fun Z0 lo => ?_
 repeat (first|refine dw_p rfl ?_|refine dw_nil ?_|refine ds_seq ?_|refine ds_ops mix (fun base => ?_))
 refine dw_cf rfl rfl d_nan72 ?_
 rintro _ rfl
 repeat (first|refine dw_want rfl rfl ?_|refine dw_skip rfl rfl ?_|refine dw_pickF rfl rfl ?_|refine dw_p rfl ?_|refine dw_nil ?_)
 exact ds_ret ⟨_, rfl, rfl, rfl⟩
def Asc (row : List Int) : Prop := ∀ (i j : Nat) (x y : Int), i < j -> row[i]? = some x -> row[j]? = some y -> x <= y
theorem half {a b : Nat} (ha : a < 1000000000) (hb : b <= 1000000000) : IntKind.i64.wrap ((IntKind.u64.wrap (IntKind.i64.wrap ((a : Int) + (b : Int)))).fdiv (2 ^ min (Int.toNat 1) IntKind.u64.bits)) = (((a + b) / 2 : Nat) : Int) := by
 rw [dwrap (n := (a : Int) + b) (by omega) (by omega)]
 have h1 : IntKind.u64.wrap ((a : Int) + b) = (a : Int) + b := by simp [IntKind.wrap, IntKind.bits, IntKind.signed]; omega
 rw [h1]
 have h2 : ((2 : Int) ^ min (Int.toNat 1) IntKind.u64.bits) = 2 := rfl
 rw [h2, Int.fdiv_eq_ediv_of_nonneg _ (by omega), dwrap (by omega) (by omega)]
 omega
theorem d_search {row : List Int} {x : Int} (hs : Asc row) (hn : row.length < 1000000000) : DK 58 [intsD row, .int x] fun d => ∃ (i : Nat) (b : Bool), d = .tup [.int i, .bool b] /\ i <= row.length /\ (∀ (k : Nat) (y : Int), k < i -> row[k]? = some y -> y < x) /\ (∀ (k : Nat) (y : Int), i <= k -> row[k]? = some y -> x <= y) := by
 refine dfn_ok cp58 rfl GHro fun Z0 lo => ?_
 repeat (first|refine dw_p rfl ?_|refine dw_nil ?_|refine ds_seq ?_|refine ds_ops mix (fun base => ?_)|refine ds_block ?_)
 refine ds_loop (fun m E S nk => ∃ i j : Nat, i <= j /\ j <= row.length /\ m = j - i /\ (∀ (k : Nat) (y : Int), k < i -> row[k]? = some y -> y < x) /\ (∀ (k : Nat) (y : Int), j <= k -> row[k]? = some y -> x <= y) /\ E = [(0, intsD row), (1, .int x), (6, .int row.length), (7, .int i), (8, .int j)] /\ S = [] /\ nk = 0) ⟨row.length, _, _, _, [], ?wk, 0, row.length, oM, oM, oM, fun k y h => oM, fun k y h1 h2 => by have := (List.getElem?_eq_some_iff.1 h2).1; omega, rfl, rfl, rfl⟩ ?_
 case wk => exact wkA
 rintro m E S nk ⟨i, j, hij, hj, hm, hlo, hhi, rfl, rfl, rfl⟩
 repeat (first|refine dw_p rfl ?_|refine dw_nil ?_|refine ds_seq ?_|refine ds_ops mix (fun base => ?_))
 refine ds_if rfl (fun ht => ?_) (fun ht => ?_)
 ·simp at ht
  have hh := half (a := i) (b := j) oM oM
  obtain ⟨y, hy⟩ : ∃ y, row[(i + j) / 2]? = some y := ⟨_, List.getElem?_eq_getElem oM⟩
  have e1 := iF_at hy
  repeat (first|refine dw_p rfl ?_|refine dw_nil ?_|refine ds_seq ?_|refine ds_ops mix (fun base => ?_)|refine ds_skip ?_|refine ds_block ?_)
  rw [hh]
  repeat (first|refine dw_p rfl ?_|refine dw_l rfl ?_|refine dw_if rfl rfl oM (by decide) aM ?_)
  refine dw_cf rfl rfl d_less ?_
  rintro _ rfl
  repeat (first|refine dw_nil ?_)
  refine ds_if rfl (fun hl => ?_) (fun hl => ?_)
  ·have hl' : y < x := by simpa using hl
   repeat (first|refine dw_p rfl ?_|refine dw_nil ?_|refine ds_ops mix (fun base => ?_))
   refine ⟨j - ((i + j) / 2 + 1), oM, _, _, _, [], ?wk, (i + j) / 2 + 1, j, oM, hj, rfl, fun k z hk hz => ?_, hhi, rfl, rfl, rfl⟩
   case wk => exact wkA
   rcases Nat.lt_or_ge k ((i + j) / 2) with h|h
   ·have := hs k ((i + j) / 2) z y h hz hy; omega
   ·obtain rfl : k = (i + j) / 2 := by omega
    rw [hy] at hz; obtain rfl := Option.some.inj hz; exact hl'
  ·have hl' : x <= y := by simpa using hl
   repeat (first|refine dw_p rfl ?_|refine dw_nil ?_|refine ds_ops mix (fun base => ?_))
   refine ⟨(i + j) / 2 - i, oM, _, _, _, [], ?wk, i, (i + j) / 2, oM, oM, rfl, hlo, fun k z hk hz => ?_, rfl, rfl, rfl⟩
   case wk => exact wkA
   rcases Nat.lt_or_ge ((i + j) / 2) k with h|h
   ·have := hs ((i + j) / 2) k y z h hy hz; omega
   ·obtain rfl : k = (i + j) / 2 := by omega
    rw [hy] at hz; obtain rfl := Option.some.inj hz; exact hl'
 ·simp at ht
  obtain rfl : i = j := by omega
  by_cases hi : i < row.length
  ·have g1 : decide ((i : Int) < row.length) = true := by simpa using hi
   obtain ⟨y, hy⟩ : ∃ y, row[i]? = some y := ⟨_, List.getElem?_eq_getElem hi⟩
   have e1 := iF_at hy
   by_cases hyx : y = x
   ·have g2 : (y == x) = true := by simpa using hyx
    repeat (first|refine dw_want rfl rfl ?_|refine dw_skip rfl rfl ?_|refine dw_skipU rfl ?_|refine dw_pickT rfl rfl ?_|refine dw_pB rfl aM ?_|refine dw_p rfl ?_|refine dw_l rfl ?_|refine dw_if rfl rfl oM (by decide) aM ?_|refine dw_nil ?_|refine ds_seq ?_|refine ds_ops mix (fun base => ?_)|refine ds_exit ?_)
    exact ds_ret ⟨_, rfl, rfl, i, _, rfl, hj, hlo, hhi⟩
   ·have g2 : (y == x) = false := by simpa using hyx
    repeat (first|refine dw_want rfl rfl ?_|refine dw_pB rfl aM ?_|refine dw_p rfl ?_|refine dw_l rfl ?_|refine dw_if rfl rfl oM (by decide) aM ?_|refine ds_seq ?_|refine ds_ops mix (fun base => ?_)|refine ds_exit ?_)
    refine dw_cf rfl rfl d_nan60 ?_
    rintro _ rfl
    repeat (first|refine dw_want rfl rfl ?_|refine dw_skip rfl rfl ?_|refine dw_pickT rfl rfl ?_|refine dw_pickF rfl rfl ?_|refine dw_p rfl ?_|refine dw_nil ?_)
    exact ds_ret ⟨_, rfl, rfl, i, _, rfl, hj, hlo, hhi⟩
  ·have g1 : decide ((i : Int) < row.length) = false := by simpa using hi
   repeat (first|refine dw_skip rfl rfl ?_|refine dw_skipU rfl ?_|refine dw_pickF rfl rfl ?_|refine dw_pB rfl aM ?_|refine dw_p rfl ?_|refine dw_nil ?_|refine ds_seq ?_|refine ds_ops mix (fun base => ?_)|refine ds_exit ?_)
   exact ds_ret ⟨_, rfl, rfl, i, _, rfl, hj, hlo, hhi⟩
theorem setL_split {cells cs : List C} {i : Nat} (h : i + cs.length <= cells.length) : setL cells i cs = cells.take i ++ cs ++ cells.drop (i + cs.length) := by
 have hs : cells = cells.take i ++ ((cells.drop i).take cs.length ++ cells.drop (i + cs.length)) := by
  rw [<- List.drop_drop, List.take_append_drop, List.take_append_drop]
 have := dsetL_mid (cells.take i) ((cells.drop i).take cs.length) cs (cells.drop (i + cs.length)) (by simp; omega)
 rw [<- hs, List.length_take, Nat.min_eq_left (by omega)] at this
 rw [this, List.append_assoc]
theorem patt_len (z : List C) (n : Nat) : (patt z n).length = n := by simp [patt]
theorem asl3 {b o n cap e : Nat} {ex : Bool} {lo hi m : Nat} (h1 : lo <= hi) (h2 : hi <= m) (h3 : m <= cap) : aPure .lf (.slice e (.c (.one (.slc b o n cap e ex))) (some (.c (.int lo))) (some (.c (.int hi))) (some (.c (.int m)))) = some (.one (.slc b (o + lo * e) (hi - lo) (m - lo) e (ex || true))) := by
 simp [aPure, aSlice, aBound, Opd.ev, h1, h2, h3]
theorem asl2 {b o n cap e : Nat} {ex : Bool} {lo hi : Nat} (h1 : lo <= hi) (h2 : hi <= cap) : aPure .lf (.slice e (.c (.one (.slc b o n cap e ex))) (some (.c (.int lo))) (some (.c (.int hi))) none) = some (.one (.slc b (o + lo * e) (hi - lo) (cap - lo) e ex)) := by
 simp [aPure, aSlice, aBound, Opd.ev, h1, h2]
theorem asl1 {b o n cap e : Nat} {ex : Bool} {lo : Nat} (h1 : lo <= n) (h2 : n <= cap) : aPure .lf (.slice e (.c (.one (.slc b o n cap e ex))) (some (.c (.int lo))) none none) = some (.one (.slc b (o + lo * e) (n - lo) (cap - lo) e ex)) := by
 simp [aPure, aSlice, aBound, Opd.ev, h1, h2]
theorem asl0 {b o n cap e : Nat} {ex : Bool} {hi : Nat} (h2 : hi <= cap) : aPure .lf (.slice e (.c (.one (.slc b o n cap e ex))) none (some (.c (.int hi))) none) = some (.one (.slc b o hi cap e ex)) := by
 simp [aPure, aSlice, aBound, Opd.ev, h2]
theorem del_ok {H : Hp} {b n cap i j : Nat} {ex : Bool} {cells : List C} (hr : Row H b cells) (hnc : n <= cap) (hcap : cap <= cells.length) (hij : i < j) (hjn : j <= n) (hn : n < 1000000000) :
  ACalls Tryz.prog 0 59 [.one (.slc b 0 n cap 1 ex), .int i, .int j] H fun v H' => v = .one (.slc b 0 (i + (n - j)) cap 1 ex) /\ ∃ rest', Row H' b (cells.take i ++ (cells.drop j).take (n - j) ++ rest') /\ (cells.take i ++ (cells.drop j).take (n - j) ++ rest').length = cells.length /\ (∀ b', b' ≠ b -> H'.get b' = H.get b') /\ H'.nx = H.nx + 8 := by
 refine pfn_ok cp59 (by simp [f59]) fun hwf => ?_
 repeat (first|refine pw_mvt rfl ?_|refine pw_mvc ?_|refine pw_p rfl rfl ?_|refine pw_nil ?_|refine ps_seq ?_|refine ps_ops0 mix ?_)
 refine pw_p rfl (asl3 oM oM oM) ?_
 repeat (first|refine pw_mvt rfl ?_|refine pw_p rfl rfl ?_|refine pw_nil ?_|refine ps_seq ?_|refine ps_ops0 mix ?_)
 refine ps_if rfl rfl (fun h => by simp at h; omega) (fun _ => ?_)
 repeat (first|refine pw_mvt rfl ?_|refine pw_p rfl rfl ?_|refine pw_nil ?_|refine ps_seq ?_|refine ps_ops0 mix ?_|refine ps_skip ?_)
 refine ps_ops mix ?_
 repeat (first|refine pw_mvt rfl ?_)
 refine pw_p rfl (asl0 oM) ?_
 repeat (first|refine pw_mvt rfl ?_)
 refine pw_p rfl (asl1 oM oM) ?_
 have hnews : H.loads b (0 + j * 1) (n - j) = some ((cells.drop j).take (n - j)) := by
  have := loads_at hr.2 (i := j) (k := n - j) oM
  rw [Nat.mul_one]; exact this
 have hlen : ((cells.drop j).take (n - j)).length = n - j := by simp; omega
 have hr8 : Row (H.skip 8) b cells := hr.same rfl
 obtain ⟨H1, s1, s2, s3, s4⟩ := hr8.stores (cs := (cells.drop j).take (n - j)) (i := i) oM
 refine pw_e rfl (v := .one (.slc b 0 (i + (n - j)) cap 1 ex)) (H' := H1) ?_ trivial ?_
 ·show aEff .lf (H.skip 8) (.append 1 8 (.c (.one (.slc b 0 i cap 1 ex))) (.c (.one (.slc b (0 + j * 1) (n - j) (cap - j) 1 ex)))) = _
  have e1 : srcCells (H.skip 8) 1 (.one (.slc b (0 + j * 1) (n - j) (cap - j) 1 ex)) = some (n - j, (cells.drop j).take (n - j)) := by
   simp only [srcCells, if_true, Nat.mul_one]
   have : (H.skip 8).loads b (0 + j) (n - j) = some ((cells.drop j).take (n - j)) := by simpa using hnews
   rw [this]; rfl
  simp only [aEff, Opd.ev, e1, aAppend]
  rw [if_neg (by simp), if_pos (by omega), Nat.zero_add, Nat.mul_one, s1]
  rfl
 repeat (first|refine pw_mvt rfl ?_|refine pw_p rfl rfl ?_|refine pw_nil ?_|refine ps_seq ?_|refine ps_ops0 mix ?_)
 refine pw_p rfl (asl2 (lo := i + (n - j)) (hi := n) oM oM) ?_
 obtain ⟨H2, t1, t2, t3, t4⟩ := s2.stores (cs := patt [.int .i64 0] ((n - (i + (n - j))) * 1)) (i := i + (n - j)) (by rw [patt_len, setL_len]; omega)
 refine pw_e rfl (v := V.undef) (H' := H2) ?_ trivial ?_
 ·show aEff .lf H1 (.clear 1 [.int .i64 0] (.c (.one (.slc b (0 + (i + (n - j)) * 1) (n - (i + (n - j))) (cap - (i + (n - j))) 1 ex)))) = _
  simp only [aEff, Opd.ev, if_true, Nat.zero_add, Nat.mul_one]
  simp only [Nat.mul_one] at t1
  rw [t1]
  rfl
 repeat (first|refine pw_mvt rfl ?_|refine pw_nil ?_|refine ps_seq ?_|refine ps_ops0 mix ?_)
 refine ps_ret ⟨_, rfl, rfl, ?_⟩
 rw [setL_split (cells := cells) (by omega)] at t2
 rw [setL_split (by rw [patt_len]; simp; omega)] at t2
 have e2 : (cells.take i ++ (cells.drop j).take (n - j) ++ cells.drop (i + ((cells.drop j).take (n - j)).length)).take (i + (n - j)) = cells.take i ++ (cells.drop j).take (n - j) := by
  rw [List.take_append_of_le_length (by simp; omega), List.take_of_length_le (by simp; omega)]
 rw [e2, List.append_assoc] at t2
 refine ⟨_, t2, ?_, fun b' hb' => by rw [t3 b' hb', s3 b' hb']; rfl, by rw [t4, s4]; rfl⟩
 have := t2.2
 simp [patt_len]
 omega
end Go.Ad

namespace Go.Ab
theorem SR.skip {p : Par} {Z : Nat -> Prop} {β : Beta} {H : Hp} {S : Bx} {nk : Nat} (hS : SR p Z β H S nk) (rs : Nat) : SR p Z β (H.skip rs) S nk :=
 ⟨hS.wf.skip rs, by simp; have := hS.lo; omega, fun b hb => by simp; have := hS.z b hb; omega, hS.zlo, hS.zz, hS.glob, hS.nk, fun k b N hk => by simp; have := hS.bd k b N hk; omega, fun k x hk => by
  obtain ⟨s, hs, hbx⟩ := hS.box k x hk
  exact ⟨s, hs, BoxR.mono (H := H) (H' := H.skip rs) (BLe.refl β) (by simp) (fun _ _ => rfl) hbx⟩, hS.inj, hS.blo, hS.anch, hS.ancn⟩
theorem ds_shrink {p : Par} {n : Nat} {Q : Exit -> DEnv -> Bx -> Nat -> Prop} {E : DEnv} {S : Bx} {nk : Nat} {s : SC} (k m : Nat) {l : List FD} (hk : lk S k = some (.data l)) (h : DPS p n s Q E (put k (.data (l.take m)) S) nk) : DPS p n s Q E S nk := .mk fun Z β H F hS hE => by
 refine h.run Z β H F ?_ hE
 refine ⟨hS.wf, hS.lo, hS.z, hS.zlo, hS.zz, hS.glob, hS.nk, hS.bd, fun κ x hκ => ?_, fun κ κ' x x' b N N' hj hj' => ?_, hS.blo, hS.anch, hS.ancn⟩
 ·rw [lk2_put hk rfl] at hκ
  split at hκ
  ·rename_i e
   split at hκ
   ·rename_i e2
    obtain rfl := key_eq e e2
    obtain rfl := Option.some.inj hκ
    obtain ⟨s, hs, hbx⟩ := hS.box (k, 0) _ (lk2_of hk rfl)
    refine ⟨s, hs, ?_⟩
    cases s with
    | nil =>
     have : l.length = 0 := hbx
     show (l.take m).length = 0
     rw [List.length_take, this]; simp
    | blk b N =>
     obtain ⟨h1, h2, h3, cs, rest, h4, h5, h6⟩ := hbx
     refine ⟨h1, h2, h3, cs.take m, cs.drop m ++ rest, ?_, ?_, All2.take h6 m⟩
     ·rw [<- List.append_assoc, List.take_append_drop]; exact h4
     ·rw [<- List.append_assoc, List.take_append_drop]; exact h5
   ·cases hκ
  ·exact hS.box κ x hκ
 ·have f : ∀ i z, lk (put k (.data (l.take m)) S) i = some z -> ∃ z', lk S i = some z' := fun i z hz => by
   rw [lk_put] at hz
   split at hz
   ·cases hl : lk S i with
    | none => rw [hl] at hz; cases hz
    | some q => exact ⟨q, rfl⟩
   ·exact ⟨z, hz⟩
  obtain ⟨z1, e1⟩ := f _ x hj
  obtain ⟨z2, e2⟩ := f _ x' hj'
  exact hS.inj κ κ' z1 z2 b N N' e1 e2
end Go.Ab
namespace Go.Ad
open Go.Ab Go.Proofs
theorem dx_delete {k n i j nk : Nat} {l : List FD} {S : Bx} (hk : lk S k = some (.data l)) (hl : l.length = n) (hij : i < j) (hjn : j <= n) (hn : n < 1000000000) : DKX 59 [.one (.own k 0 n 1), .int i, .int j] S nk fun d S' nk' => d = .one (.own k 0 (i + (n - j)) 1) /\ nk' = nk /\ S' = put k (.data (l.take i ++ l.drop j)) S := by
 intro Z0 lo anc β0 H1 Z β H args hS ha
 match args, ha with
 | [v1, v2, v3], ⟨h1, h2, h3, _⟩ =>
  obtain ⟨c1, rfl, h1⟩ := h1
  obtain ⟨c2, rfl, h2⟩ := h2
  obtain ⟨c3, rfl, h3⟩ := h3
  cases h2
  cases h3
  rcases h1 with ⟨_, h1, _⟩|⟨b, N, cap, ex, hb, rfl, hcap, hN⟩
  ·omega
  ·obtain ⟨s, hs, hbx⟩ := hS.box (k, 0) _ (lk2_of hk rfl)
   rw [hb] at hs
   obtain rfl := Option.some.inj hs
   obtain ⟨hz, hlo, hlt, cs, rest, hrow, hNl, hrel⟩ := hbx
   have hrow : Row H b (cs ++ rest) := hrow
   have hNl : (cs ++ rest).length = N := hNl
   have hcl : cs.length = n := by rw [<- hl]; exact (All2.len hrel).symm
   refine (del_ok hrow hcap oM hij hjn hn).mono ?_
   rintro v H' ⟨rfl, rest', hrow', hlen', hoth, hnx⟩
   have e1 : (cs ++ rest).take i = cs.take i := List.take_append_of_le_length oM
   have e2 : ((cs ++ rest).drop j).take (n - j) = cs.drop j := by
    rw [List.drop_append_of_le_length (by omega), List.take_append_of_le_length (by simp; omega), List.take_of_length_le (by simp; omega)]
   rw [e1, e2] at hrow' hlen'
   obtain ⟨hS', hZ⟩ := (hS.skip 8).upd (x' := .data (l.take i ++ l.drop j)) (cs := cs.take i ++ cs.drop j) (rest := rest') hk rfl hb (All2.append (All2.take (All2.mono (fun _ _ => RF.mono (ZLe.of_get (H := H) (H' := H.skip 8) (fun _ h => h) fun _ _ => rfl)) hrel) i) (All2.drop (All2.mono (fun _ _ => RF.mono (ZLe.of_get (H := H) (H' := H.skip 8) (fun _ h => h) fun _ _ => rfl)) hrel) j)) (fun b' hb' => by rw [hoth b' hb']; rfl) (by rw [hnx]; rfl) rfl hrow' (by rw [hlen', hNl])
   exact ⟨.one (.own k 0 (i + (n - j)) 1), _, _, Z, β, hS', ⟨_, rfl, .inr ⟨b, N, cap, ex, hb, rfl, oM, hN⟩⟩, hZ, fun _ _ h => h, rfl, rfl, rfl⟩
end Go.Ad

namespace Go.Ad
open Go.Ab Go.Proofs
set_option linter.unusedSimpArgs false
abbrev RowsL := List (Int × List Int)
def rowsM (R : RowsL) : List (Int × ME) := R.map fun e => (e.1, .row (e.2.map iF))
def SSe (es : List (Int × ME)) (left : Int) (A B : List FD) (a b : Int) : Bx := [(0, .mt es), (1, .cells [.om 0]), (2, .cells [.f (.c (.int .i64 left))]), (3, .data A), (4, .data B), (5, .cells [.f (.c (.int .i64 a)), .f (.c (.int .i64 b))])]
def SS (R : RowsL) (left : Int) (A B : List FD) (a b : Int) : Bx := SSe (rowsM R) left A B a b
def inB' (low high x : Int) : Bool := decide (low <= x) && decide (x <= high)
def tkn (R : RowsL) (y low high : Int) : List Pt2 := (R.filter fun e => decide (e.1 = y)).flatMap fun e => (e.2.filter (inB' low high)).map fun x => (x, y)
def lft (R : RowsL) (y low high : Int) : RowsL := R.map fun e => (e.1, if e.1 = y then e.2.filter (fun x => !(inB' low high x)) else e.2)
structure RowsOk (R : RowsL) : Prop where
 nd : (R.map (·.1)).Nodup
 asc : ∀ e ∈ R, Asc e.2
 len : ∀ e ∈ R, e.2.length < 1000000
theorem noKM_rows (R : RowsL) : noKM 0 (rowsM R) = true := by
 unfold rowsM
 induction R with
 | nil => rfl
 | cons e R ih => exact ih
theorem rowsM_at {R : RowsL} {i : Nat} {e : Int × List Int} (h : R[i]? = some e) : (rowsM R)[i]? = some (e.1, .row (e.2.map iF)) := by simp [rowsM, h]
theorem tkn_none {R : RowsL} {y low high : Int} (h : ∀ e ∈ R, e.1 ≠ y) : tkn R y low high = [] /\ lft R y low high = R := by
 constructor
 ·unfold tkn
  rw [List.filter_eq_nil_iff.2 (fun e he => by simpa using h e he)]
  rfl
 ·unfold lft
  conv => rhs; rw [<- List.map_id R]
  exact List.map_congr_left fun e he => by rw [if_neg (h e he)]; rfl
theorem d_search0 {x : Int} : DK 58 [.one (.f (.c .nils)), .int x] fun d => ∃ b : Bool, d = .tup [.int 0, .bool b] := fun H Z args hw hz hg ha => by
 match args, ha with
 | [v1, v2], ⟨h1, h2, _⟩ =>
  obtain ⟨c, rfl, h1⟩ := h1
  cases h1
  refine (d_search (row := []) (x := x) (fun i j x y _ h => by simp at h) (by simp) H Z [.one .nils, v2] hw hz hg ⟨⟨_, rfl, RF.nil 1⟩, h2, trivial⟩).mono ?_
  rintro v H' ⟨g1, g2, g3, d, g4, i, b, rfl, g5, _⟩
  simp at g5
  subst g5
  exact ⟨g1, g2, g3, _, g4, b, rfl⟩
theorem first_at {R : RowsL} (hnd : (R.map (·.1)).Nodup) {i : Nat} {e : Int × List Int} (h : R[i]? = some e) : ∀ (j : Nat) (e' : Int × ME), j < i -> (rowsM R)[j]? = some e' -> e'.1 ≠ e.1 := by
 intro j e' hj he' heq
 have hjl : j < R.length := by have := (List.getElem?_eq_some_iff.1 he').1; simpa [rowsM] using this
 have he2 : R[j]? = some R[j] := List.getElem?_eq_getElem hjl
 have h3 := rowsM_at he2
 rw [he'] at h3
 obtain rfl := Option.some.inj h3
 have k1 : (R.map (·.1))[j]? = some e.1 := by simp [he2]; exact heq
 have k2 : (R.map (·.1))[i]? = some e.1 := by simp [h]
 have := (List.getElem?_inj (by simpa using hjl) hnd).1 (k1.trans k2.symm)
 omega
theorem mtMap_rows (f : DC -> DC) (R : RowsL) : mtMap f (rowsM R) = rowsM R := by
 unfold mtMap rowsM
 rw [List.map_map]
 exact List.map_congr_left fun e _ => rfl
theorem smM_rows (n : Nat) (R : RowsL) : smM n (rowsM R) = true := by
 unfold rowsM
 induction R with
 | nil => rfl
 | cons e R ih => exact ih
theorem wkSSe {ρ : List (Nat × Nat)} {n0 : Nat} {S : Bx} {es es' : List (Int × ME)} {left : Int} {A B : List FD} {a b : Int} (he : mtMap (rnC ρ) es = es') (hs : smM n0 es = true) (h0 : lk S (rn ρ 0) = some (.mt es')) (h1 : lk S (rn ρ 1) = some (.cells [.om (rn ρ 0)])) (h2 : lk S (rn ρ 2) = some (.cells [.f (.c (.int .i64 left))])) (h3 : lk S (rn ρ 3) = some (.data A)) (h4 : lk S (rn ρ 4) = some (.data B)) (h5 : lk S (rn ρ 5) = some (.cells [.f (.c (.int .i64 a)), .f (.c (.int .i64 b))])) (hn : 6 <= n0) : WkS ρ n0 S (SSe es left A B a b) := by
 have hb : ∀ k, k < 6 -> Nat.blt k n0 = true := fun k hk => Nat.ble_eq_true_of_le oM
 have hb0 := hb 0 oM
 refine ⟨?_, hs, hb 0 oM, h1, ?_, hb 1 oM, h2, rfl, hb 2 oM, h3, rfl, hb 3 oM, h4, rfl, hb 4 oM, h5, rfl, hb 5 oM, trivial⟩
 ·rw [h0]; simp only [rnB, he]
 ·simp only [smB, allB, smC, hb0]
theorem wkSS {ρ : List (Nat × Nat)} {n0 : Nat} {S : Bx} {R : RowsL} {left : Int} {A B : List FD} {a b : Int} (h0 : lk S (rn ρ 0) = some (.mt (rowsM R))) (h1 : lk S (rn ρ 1) = some (.cells [.om (rn ρ 0)])) (h2 : lk S (rn ρ 2) = some (.cells [.f (.c (.int .i64 left))])) (h3 : lk S (rn ρ 3) = some (.data A)) (h4 : lk S (rn ρ 4) = some (.data B)) (h5 : lk S (rn ρ 5) = some (.cells [.f (.c (.int .i64 a)), .f (.c (.int .i64 b))])) (hn : 6 <= n0) : WkS ρ n0 S (SS R left A B a b) :=
 wkSSe (mtMap_rows _ R) (smM_rows n0 R) h0 h1 h2 h3 h4 h5 hn
theorem mtMap_set (f : DC -> DC) (R : RowsL) (i : Nat) (y : Int) (d : DC) : mtMap f ((rowsM R).set i (y, .out d)) = (rowsM R).set i (y, .out (f d)) := by
 have := mtMap_rows f R
 unfold mtMap at this ⊢
 rw [List.map_set, this]
 rfl
theorem smM_set {n : Nat} {d : DC} (hd : smC n d = true) (y : Int) : ∀ (R : RowsL) (i : Nat), smM n ((rowsM R).set i (y, .out d)) = true
 | [], i => rfl
 | e :: R, 0 => by
  show smM n ((y, .out d) :: rowsM R) = true
  simp only [smM, hd, smM_rows]
 | e :: R, i + 1 => smM_set hd y R i
theorem noKM_set {d : DC} (hd : noKC 0 d = true) (y : Int) : ∀ (R : RowsL) (i : Nat), noKM 0 ((rowsM R).set i (y, .out d)) = true
 | [], i => rfl
 | e :: R, 0 => by
  show noKM 0 ((y, .out d) :: rowsM R) = true
  simp only [noKM, hd, noKM_rows]
 | e :: R, i + 1 => noKM_set hd y R i
theorem mem_idx {l : List Int} {x : Int} (h : x ∈ l) : ∃ k : Nat, l[k]? = some x := List.getElem?_of_mem h
theorem seg {xs : List Int} {i j : Nat} {low high : Int} (hij : i <= j) (hj : j <= xs.length) (h1 : ∀ (k : Nat) (y : Int), k < i -> xs[k]? = some y -> y < low) (h2 : ∀ (k : Nat) (y : Int), i <= k -> xs[k]? = some y -> low <= y) (h3 : ∀ (k : Nat) (y : Int), i <= k -> k < j -> xs[k]? = some y -> y <= high) (h4 : ∀ (k : Nat) (y : Int), j <= k -> xs[k]? = some y -> high < y) :
  xs.filter (inB' low high) = (xs.drop i).take (j - i) /\ xs.filter (fun x => !(inB' low high x)) = xs.take i ++ xs.drop j := by
 have hsp : xs = xs.take i ++ ((xs.drop i).take (j - i) ++ xs.drop j) := by
  have : xs.drop j = (xs.drop i).drop (j - i) := by rw [List.drop_drop]; congr 1; omega
  rw [this, List.take_append_drop, List.take_append_drop]
 have a1 : ∀ x ∈ xs.take i, inB' low high x = false := fun x hx => by
  obtain ⟨k, hk⟩ := mem_idx hx
  rw [List.getElem?_take] at hk
  split at hk
  ·have := h1 k x aM hk
   simp [inB']; omega
  ·cases hk
 have a2 : ∀ x ∈ (xs.drop i).take (j - i), inB' low high x = true := fun x hx => by
  obtain ⟨k, hk⟩ := mem_idx hx
  rw [List.getElem?_take] at hk
  split at hk
  ·rw [List.getElem?_drop] at hk
   have k1 := h2 (i + k) x oM hk
   have k2 := h3 (i + k) x oM oM hk
   simp [inB']; omega
  ·cases hk
 have a3 : ∀ x ∈ xs.drop j, inB' low high x = false := fun x hx => by
  obtain ⟨k, hk⟩ := mem_idx hx
  rw [List.getElem?_drop] at hk
  have := h4 (j + k) x oM hk
  simp [inB']; omega
 constructor
 ·conv => lhs; rw [hsp]
  rw [List.filter_append, List.filter_append, List.filter_eq_nil_iff.2 (fun x hx => by rw [a1 x hx]; simp), List.filter_eq_self.2 a2, List.filter_eq_nil_iff.2 (fun x hx => by rw [a3 x hx]; simp)]
  simp
 ·conv => lhs; rw [hsp]
  rw [List.filter_append, List.filter_append, List.filter_eq_self.2 (fun x hx => by rw [a1 x hx]; rfl), List.filter_eq_nil_iff.2 (fun x hx => by rw [a2 x hx]; simp), List.filter_eq_self.2 (fun x hx => by rw [a3 x hx]; rfl)]
  simp
theorem tkn_at : ∀ {R : RowsL} {i : Nat} {y low high : Int} {xs : List Int}, (R.map (·.1)).Nodup -> R[i]? = some (y, xs) -> tkn R y low high = (xs.filter (inB' low high)).map (fun x => (x, y)) /\ lft R y low high = R.set i (y, xs.filter (fun x => !(inB' low high x)))
 | [], i, y, low, high, xs, _, h => by simp at h
 | e :: R, 0, y, low, high, xs, hnd, h => by
  simp at h
  subst h
  simp only [List.map_cons, List.nodup_cons, List.mem_map, not_exists, not_and] at hnd
  obtain ⟨t1, t2⟩ := tkn_none (R := R) (y := y) (low := low) (high := high) (fun e he h => hnd.1 e he h)
  constructor
  ·unfold tkn at t1 ⊢
   simp [t1]
  ·unfold lft at t2 ⊢
   simp [t2]
 | e :: R, i + 1, y, low, high, xs, hnd, h => by
  simp only [List.map_cons, List.nodup_cons, List.mem_map, not_exists, not_and] at hnd
  have hi : R[i]? = some (y, xs) := by simpa using h
  obtain ⟨t1, t2⟩ := tkn_at (low := low) (high := high) hnd.2 hi
  have hne : e.1 ≠ y := fun he => hnd.1 (y, xs) (List.mem_of_getElem? hi) he.symm
  constructor
  ·unfold tkn at t1 ⊢
   rw [List.filter_cons, if_neg (by simpa using hne)]
   exact t1
  ·unfold lft at t2 ⊢
   rw [List.map_cons, t2, if_neg hne]
   rfl
theorem rowsM_set (R : RowsL) (i : Nat) (y : Int) (xs : List Int) : rowsM (R.set i (y, xs)) = (rowsM R).set i (y, .row (xs.map iF)) := by simp [rowsM, List.map_set]
set_option maxHeartbeats 4000000 in
theorem dx_take {R : RowsL} {left y low high : Int} {A B : List FD} {a b : Int} (hR : RowsOk R) (hl : -1000000000 < left) (hl' : left < 1000000000) : DKX 57 [.int y, .int low, .int high, .one (.ptr 1 0), .one (.ptr 2 0)] (SS R left A B a b) 6 fun d S nk => d = .one (.own 7 0 (tkn R y low high).length 2) /\ S = (7, .data ((tkn R y low high).flatMap ptF)) :: SS (lft R y low high) (left - (tkn R y low high).length) A B a b /\ nk = 8 := by
 refine dxk_ok cp57 rfl fun Z β H lo => ?_
 by_cases hy : ∃ (i : Nat) (xs : List Int), R[i]? = some (y, xs)
 ·obtain ⟨i0, xs, hi0⟩ := hy
  obtain ⟨t1, t2⟩ := tkn_at (low := low) (high := high) hR.nd hi0
  have hasc := hR.asc _ (List.mem_of_getElem? hi0)
  have hlen := hR.len _ (List.mem_of_getElem? hi0)
  simp only at hasc hlen
  have hs := d_search (row := xs) (x := low) hasc oM
  obtain ⟨N, hN⟩ : ∃ N, (xs.map iF).length = N := ⟨_, rfl⟩
  have hN' : xs.length = N := by rw [<- hN]; simp
  rw [show intsD xs = DV.one (.f (.sl 1 N (xs.map iF))) from by rw [intsD, hN']] at hs
  repeat (first|refine dw_p rfl ?_|refine dw_l rfl ?_|refine dw_nil ?_|refine ds_seq ?_|refine ds_ops mix (fun base => ?_))
  refine dw_mlook rfl rfl rfl (rowsM_at hi0) (first_at hR.nd hi0) rfl (noKM_rows R) rfl rfl ?_
  rw [hN]
  repeat (first|refine dw_p rfl ?_|refine dw_nil ?_|refine ds_seq ?_|refine ds_ops mix (fun base => ?_))
  refine dw_cfo (ds := [.one (.f (.sl 1 N (xs.map iF))), .int low]) rfl ⟨⟨_, rfl, _, _, rfl, subL_all _ (by rw [hN]; omega), rfl⟩, ⟨_, rfl, rfl, rfl⟩, trivial⟩ hs ?_ ?_
  ·rintro _ ⟨i, b, rfl, _⟩; rfl
  rintro _ ⟨i, bb, rfl, hi, hlo, hhi⟩
  repeat (first|refine dw_p rfl ?_|refine dw_nil ?_|refine ds_seq ?_|refine ds_ops mix (fun base => ?_)|refine ds_block ?_)
  refine ds_virt 13 2 rfl ?_
  rw [hN'] at hi
  have hT : ∀ c : Nat, i + c <= N -> ((((xs.drop i).take c).map fun x => (x, y)).flatMap ptF).length = c * 2 := fun c hc => by rw [ptF_len]; simp; omega
  refine ds_loop (fun m E S nk => ∃ c : Nat, i + c <= N /\ m = N - (i + c) /\ (∀ (k : Nat) (z : Int), i <= k -> k < i + c -> xs[k]? = some z -> z <= high) /\ E = [(0, .int y), (2, .int high), (3, .one (.ptr 1 0)), (4, .one (.ptr 2 0)), (9, .one (.own 6 0 N 1)), (10, .int i), (12, .int (i + c : Nat)), (13, .one (.own 7 0 c 2))] /\ S = (7, .data ((((xs.drop i).take c).map fun x => (x, y)).flatMap ptF)) :: (6, .data (xs.map iF)) :: SSe ((rowsM R).set i0 (y, .out (.own 6 0 N 1))) left A B a b /\ nk = 8) ⟨N - i, _, _, _, [], ?wk, 0, hi, rfl, fun k z h1 h2 => oM, rfl, rfl, rfl⟩ ?_
  case wk => exact ⟨(by repeat (first|exact trivial|refine ⟨by first|rfl|exact cgI oM oM, rfl, ?_⟩)), ⟨rfl, rfl, rfl, rfl, rfl, rfl, wkSSe (mtMap_set _ R i0 y _) (smM_set rfl y R i0) rfl rfl rfl rfl rfl rfl oM⟩, rfl, rfl⟩
  rintro m E S nk ⟨c, hj, hm, hle, rfl, rfl, rfl⟩
  have hTc := hT c hj
  have fin : (∀ (k : Nat) (z : Int), i + c <= k -> xs[k]? = some z -> high < z) -> DPS (parK Z lo 6 β H) f57.n (((SC.ops f57r8 0).seq (SC.cond (Opd.t 49) ((SC.ops f57r9 7).seq (SC.ops f57r10 0)) SC.skip)).seq ((SC.ops f57r11 0).seq SC.ret)) (retO (parK Z lo 6 β H) f57.res fun d S nk => d = DV.one (DC.own 7 0 (tkn R y low high).length 2) /\ S = (7, Bk.data (List.flatMap ptF (tkn R y low high))) :: SS (lft R y low high) (left - ↑(tkn R y low high).length) A B a b /\ nk = 8)
    [(0, .int y), (2, .int high), (3, .one (.ptr 1 0)), (4, .one (.ptr 2 0)), (9, .one (.own 6 0 N 1)), (10, .int i), (12, .int (i + c : Nat)), (13, .one (.own 7 0 c 2))] ((7, .data ((((xs.drop i).take c).map fun x => (x, y)).flatMap ptF)) :: (6, .data (xs.map iF)) :: SSe ((rowsM R).set i0 (y, .out (.own 6 0 N 1))) left A B a b) 8 := by
   intro hgt
   obtain ⟨f1, f2⟩ := seg (low := low) (high := high) (Nat.le_add_right i c) oM hlo hhi hle hgt
   rw [Nat.add_sub_cancel_left] at f1
   rw [f1] at t1
   rw [f2] at t2
   have htl : (tkn R y low high).length = c := by rw [t1]; simp; omega
   rw [t2, htl, t1]
   have hes : ∀ d : DC, ((rowsM R).set i0 (y, .out d))[i0]? = some (y, .out d) := fun d => by
    have : i0 < (rowsM R).length := by have := (List.getElem?_eq_some_iff.1 hi0).1; simpa [rowsM] using this
    rw [List.getElem?_set_self this]
   have hfs : ∀ (d : DC) (j : Nat) (e' : Int × ME), j < i0 -> ((rowsM R).set i0 (y, .out d))[j]? = some e' -> e'.1 ≠ y := fun d j e' hj he => by
    rcases set_at he with ⟨h, _⟩|⟨_, h⟩
    ·omega
    ·exact first_at hR.nd hi0 j e' hj h
   by_cases hc : 0 < c
   ·have g2 : decide (((i + c : Nat) : Int) > (i : Nat)) = true := decide_eq_true oM
    repeat (first|refine dw_pB rfl aM ?_|refine dw_p rfl ?_|refine dw_nil ?_|refine ds_seq ?_|refine ds_ops mix (fun base => ?_))
    refine ds_if rfl (fun _ => ?_) (fun h => by cases h)
    repeat (first|refine dw_p rfl ?_|refine dw_lk rfl ?_|refine ds_seq ?_|refine ds_ops mix (fun base => ?_))
    refine dw_cxw rfl rfl (dx_delete rfl hN oM oM oM _ _ _ _ _) ?_
    rintro d S' nk' ⟨rfl, rfl, rfl⟩
    refine ⟨⟨rfl, ⟨_, rfl, rfl, rfl, rfl⟩, trivial⟩, ?_⟩
    refine dw_mupd rfl rfl rfl rfl (hes _) (hfs _) rfl ?_
    rw [List.set_set]
    repeat (first|refine dw_p rfl ?_|refine dw_l rfl ?_|refine dw_st rfl rfl rfl rfl rfl (Nat.le_of_ble_eq_true rfl) rfl ?_|refine dw_nil ?_|refine ds_seq ?_|refine ds_ops mix (fun base => ?_))
    have hq : ((xs.map iF).take i ++ (xs.map iF).drop (i + c)).length = i + (N - (i + c)) := by simp; omega
    refine ds_att 0 6 i0 rfl rfl (by rw [hq]; exact hes _) rfl (noKM_set rfl y R i0) rfl ?_
    rw [List.set_set]
    skip
    have hw1 : IntKind.i64.wrap (left - IntKind.i64.wrap (((i + c : Nat) : Int) - (i : Nat))) = left - c := by
     rw [dwrap (n := ((i + c : Nat) : Int) - (i : Nat)) (by omega) (by omega), dwrap (by omega) (by omega)]; omega
    have hm1 : rowsM (R.set i0 (y, xs.take i ++ xs.drop (i + c))) = (rowsM R).set i0 (y, .row ((xs.map iF).take i ++ (xs.map iF).drop (i + c))) := by rw [rowsM_set]; simp
    refine ds_ret ⟨_, rfl, rfl, _, ?_, rfl, rfl, rfl⟩
    refine SubA.cons (k := 7) rfl (SubA.cons (k := 0) ?_ (SubA.cons (k := 1) rfl (SubA.cons (k := 2) ?_ (SubA.cons (k := 3) rfl (SubA.cons (k := 4) rfl (SubA.cons (k := 5) rfl (SubA.nil _)))))))
    ·rw [hm1]; rfl
    ·rw [<- hw1]; rfl
   ·obtain rfl : c = 0 := by omega
    have g2 : decide (((i + 0 : Nat) : Int) > (i : Nat)) = false := decide_eq_false oM
    repeat (first|refine dw_pB rfl aM ?_|refine dw_p rfl ?_|refine dw_nil ?_|refine ds_seq ?_|refine ds_ops mix (fun base => ?_))
    refine ds_if rfl (fun h => by cases h) (fun _ => ?_)
    repeat (first|refine dw_p rfl ?_|refine dw_nil ?_|refine ds_seq ?_|refine ds_ops mix (fun base => ?_)|refine ds_skip ?_)
    refine ds_att 0 6 i0 rfl rfl (by rw [hN]; exact hes _) rfl (noKM_set rfl y R i0) rfl ?_
    rw [List.set_set]
    skip
    have hm1 : rowsM (R.set i0 (y, xs.take i ++ xs.drop (i + 0))) = (rowsM R).set i0 (y, .row (xs.map iF)) := by rw [rowsM_set]; simp
    refine ds_ret ⟨_, rfl, rfl, _, ?_, rfl, rfl, rfl⟩
    refine SubA.cons (k := 7) rfl (SubA.cons (k := 0) ?_ (SubA.cons (k := 1) rfl (SubA.cons (k := 2) ?_ (SubA.cons (k := 3) rfl (SubA.cons (k := 4) rfl (SubA.cons (k := 5) rfl (SubA.nil _)))))))
    ·rw [hm1]; rfl
    ·simp; rfl
  by_cases hjN : i + c < N
  ·have g1 : decide (((i + c : Nat) : Int) < N) = true := decide_eq_true oM
   obtain ⟨x, hx⟩ : ∃ x, xs[i + c]? = some x := ⟨_, List.getElem?_eq_getElem oM⟩
   have e1 : subL (xs.map iF) (Int.toNat ((i + c : Nat) : Int)) 1 = some [iF x] := by have := iF_at hx; rw [Nat.mul_one] at this; exact this
   repeat (first|refine dw_want rfl rfl ?_|refine dw_pickT rfl rfl ?_|refine dw_pB rfl aM ?_|refine dw_p rfl ?_|refine dw_io1 rfl rfl oM oM ?_|refine dw_l (dload_data rfl rfl aM rfl) ?_|refine dw_nil ?_|refine ds_seq ?_|refine ds_ops mix (fun base => ?_))
   refine ds_if rfl (fun hl2 => ?_) (fun hl2 => ?_)
   ·have hxh : x <= high := by simpa using hl2
    repeat (first|refine dw_p rfl ?_|refine dw_io1 rfl rfl oM oM ?_|refine dw_l (dload_data rfl rfl aM rfl) ?_|refine dw_a rfl ?_|refine ds_seq ?_|refine ds_ops mix (fun base => ?_)|refine ds_skip ?_|refine ds_block ?_)
    refine dw_app rfl rfl rfl (subL_all _ hTc) ⟨rfl, rfl, _, rfl, rfl⟩ oM oM (by decide) rfl ?_
    repeat (first|refine dw_p rfl ?_|refine dw_nil ?_|refine ds_ops mix (fun base => ?_))
    have hD : (((xs.drop i).take c).map fun x => (x, y)).flatMap ptF ++ [iF x, .c (.int .i64 y)] = (((xs.drop i).take (c + 1)).map fun x => (x, y)).flatMap ptF := by
     rw [List.take_add_one, List.getElem?_drop, hx]
     simp [ptF, iF]
    refine ⟨N - (i + (c + 1)), oM, _, _, _, [(7, 9)], ?wk1, c + 1, oM, rfl, fun k z h1 h2 hz => ?_, rfl, rfl, rfl⟩
    case wk1 => exact ⟨(by repeat (first|exact trivial|refine ⟨by first|rfl|exact cgI oM oM, rfl, ?_⟩)), ⟨congrArg (fun z => some (Bk.data z)) hD, rfl, rfl, rfl, rfl, rfl, wkSSe (mtMap_set _ R i0 y _) (smM_set rfl y R i0) rfl rfl rfl rfl rfl rfl oM⟩, rfl, rfl⟩
    rcases Nat.lt_or_ge k (i + c) with h|h
    ·exact hle k z h1 h hz
    ·obtain rfl : k = i + c := by omega
     rw [hx] at hz; obtain rfl := Option.some.inj hz; exact hxh
   ·have hxh : high < x := by simpa using hl2
    refine ds_exit ?_
    refine ds_keep (E0 := [(0, .int y), (2, .int high), (3, .one (.ptr 1 0)), (4, .one (.ptr 2 0)), (9, .one (.own 6 0 N 1)), (10, .int i), (12, .int (i + c : Nat)), (13, .one (.own 7 0 c 2))]) (SubA.cons (k := 0) rfl (SubA.cons (k := 2) rfl (SubA.cons (k := 3) rfl (SubA.cons (k := 4) rfl (SubA.cons (k := 9) rfl (SubA.cons (k := 10) rfl (SubA.cons (k := 12) rfl (SubA.cons (k := 13) rfl (SubA.nil _))))))))) (SubA.refl _) (fin fun k z hk hz => ?_)
    rcases Nat.lt_or_ge (i + c) k with h|h
    ·have := hasc (i + c) k x z h hx hz; omega
    ·obtain rfl : k = i + c := by omega
     rw [hx] at hz; obtain rfl := Option.some.inj hz; exact hxh
  ·have g1 : decide (((i + c : Nat) : Int) < N) = false := decide_eq_false oM
   repeat (first|refine dw_skip rfl rfl ?_|refine dw_pickF rfl rfl ?_|refine dw_pB rfl aM ?_|refine dw_p rfl ?_|refine dw_nil ?_|refine ds_seq ?_|refine ds_ops mix (fun base => ?_))
   refine ds_if rfl (fun h => by cases h) (fun _ => ?_)
   refine ds_exit ?_
   refine ds_keep (E0 := [(0, .int y), (2, .int high), (3, .one (.ptr 1 0)), (4, .one (.ptr 2 0)), (9, .one (.own 6 0 N 1)), (10, .int i), (12, .int (i + c : Nat)), (13, .one (.own 7 0 c 2))]) (SubA.cons (k := 0) rfl (SubA.cons (k := 2) rfl (SubA.cons (k := 3) rfl (SubA.cons (k := 4) rfl (SubA.cons (k := 9) rfl (SubA.cons (k := 10) rfl (SubA.cons (k := 12) rfl (SubA.cons (k := 13) rfl (SubA.nil _))))))))) (SubA.refl _) (fin fun k z hk hz => ?_)
   have := (List.getElem?_eq_some_iff.1 hz).1
   omega
 ·have hn : ∀ e ∈ R, e.1 ≠ y := fun e he h => hy (by
   obtain ⟨i, hi⟩ := List.getElem?_of_mem he
   exact ⟨i, e.2, by rw [hi, <- h]⟩)
  obtain ⟨ht, hlf⟩ := tkn_none (low := low) (high := high) hn
  rw [ht, hlf]
  repeat (first|refine dw_p rfl ?_|refine dw_l rfl ?_|refine dw_nil ?_|refine ds_seq ?_|refine ds_ops mix (fun base => ?_))
  refine dw_mlook0 rfl rfl rfl (fun e he => ?_) rfl ?_
  ·simp only [rowsM, List.mem_map] at he
   obtain ⟨e', he', rfl⟩ := he
   exact hn e' he'
  repeat (first|refine dw_p rfl ?_|refine dw_nil ?_|refine ds_seq ?_|refine ds_ops mix (fun base => ?_))
  refine dw_cf rfl rfl d_search0 ?_
  rintro _ ⟨bb, rfl⟩
  repeat (first|refine dw_p rfl ?_|refine dw_nil ?_|refine ds_seq ?_|refine ds_ops mix (fun base => ?_)|refine ds_block ?_)
  refine ds_loop (fun m E S nk => E = [(9, .one (.f (.c .nils))), (10, .int 0), (12, .int 0), (13, .one (.f (.c .nils)))] /\ S = SS R left A B a b /\ nk = 6) ⟨0, _, _, _, [], ?wk, rfl, rfl, rfl⟩ ?_
  case wk => exact ⟨(by repeat (first|exact trivial|refine ⟨by first|rfl|exact cgI oM oM, rfl, ?_⟩)), wkSS rfl rfl rfl rfl rfl rfl oM, rfl, rfl⟩
  rintro m E S nk ⟨rfl, rfl, rfl⟩
  repeat (first|refine dw_skip rfl rfl ?_|refine dw_pickF rfl rfl ?_|refine dw_p rfl ?_|refine dw_nil ?_|refine ds_seq ?_|refine ds_ops mix (fun base => ?_))
  refine ds_if rfl (fun h => by cases h) (fun _ => ?_)
  repeat (first|refine dw_p rfl ?_|refine dw_nil ?_|refine ds_seq ?_|refine ds_ops mix (fun base => ?_)|refine ds_exit ?_)
  refine ds_if rfl (fun h => by cases h) (fun _ => ?_)
  repeat (first|refine dw_p rfl ?_|refine dw_nil ?_|refine ds_seq ?_|refine ds_ops mix (fun base => ?_)|refine ds_skip ?_)
  refine ds_virt 8 2 rfl ?_
  refine ds_wk [(7, 6)] (n0 := 8) (E0 := [(8, .one (.own 7 0 0 2))]) (S0 := (7, .data []) :: SS R left A B a b) ?wk2 ?_
  case wk2 => exact ⟨(by repeat (first|exact trivial|refine ⟨by first|rfl|exact cgI oM oM, rfl, ?_⟩)), ⟨rfl, rfl, rfl, wkSS rfl rfl rfl rfl rfl rfl oM⟩, rfl, rfl⟩
  exact ds_ret ⟨_, rfl, rfl, _, SubA.refl _, by simp, by simp, rfl⟩
theorem far_nonneg (p q : Pt2) : 0 <= far p q := by simp only [far]; omega
theorem far_comm (p q : Pt2) : far p q = far q p := by simp only [far]; omega
theorem far_zero (p q : Pt2) : far p q = 0 ↔ p = q := by
 obtain ⟨p1, p2⟩ := p
 obtain ⟨q1, q2⟩ := q
 simp only [far, Prod.mk.injEq]
 omega
theorem mem_fars {a b : List Pt2} {z : Int} : z ∈ fars a b ↔ ∃ x ∈ a, ∃ y ∈ b, far x y = z := by simp [fars]
theorem dist_spec {a b : List Pt2} (ha : a ≠ []) (hb : b ≠ []) : (∃ x ∈ a, ∃ y ∈ b, far x y = dist a b) /\ ∀ x ∈ a, ∀ y ∈ b, dist a b <= far x y := by
 obtain ⟨p, a', rfl⟩ := List.exists_cons_of_ne_nil ha
 obtain ⟨q, b', rfl⟩ := List.exists_cons_of_ne_nil hb
 have hd : dist (p :: a') (q :: b') = (fars (p :: a') (q :: b')).foldl min (far p q) := rfl
 refine ⟨?_, fun x hx y hy => ?_⟩
 ·rcases foldl_min_mem (fars (p :: a') (q :: b')) (far p q) with h|h
  ·exact ⟨p, by simp, q, by simp, by rw [hd, h]⟩
  ·exact mem_fars.1 (hd ▸ h)
 ·rw [hd]
  exact (foldl_min_le _ _).2 _ (mem_fars.2 ⟨x, hx, y, hy, rfl⟩)
theorem dist_comm (a b : List Pt2) : dist a b = dist b a := by
 by_cases ha : a = []
 ·subst ha; cases b <;> rfl
 ·by_cases hb : b = []
  ·subst hb; cases a <;> rfl
  ·obtain ⟨⟨x, hx, y, hy, h⟩, h1⟩ := dist_spec ha hb
   obtain ⟨⟨x', hx', y', hy', h'⟩, h2⟩ := dist_spec hb ha
   have g1 := h1 y' hy' x' hx'
   have g2 := h2 y hy x hx
   rw [far_comm] at g1 g2
   omega
theorem dist_zero (a b : List Pt2) : dist a b = 0 ↔ ∃ x ∈ a, x ∈ b := by
 by_cases ha : a = []
 ·subst ha; simp [dist]
 ·by_cases hb : b = []
  ·subst hb
   obtain ⟨p, a', rfl⟩ := List.exists_cons_of_ne_nil ha
   simp [dist]
  ·obtain ⟨⟨x, hx, y, hy, h⟩, h1⟩ := dist_spec ha hb
   constructor
   ·intro h0
    rw [h0] at h
    exact ⟨x, hx, (far_zero x y).1 h ▸ hy⟩
   ·rintro ⟨z, hz, hz'⟩
    have := h1 z hz z hz'
    rw [(far_zero z z).2 rfl] at this
    have := far_nonneg x y
    omega
end Go.Ad

namespace Go.Ad
open Go.Ab
inductive Conn (gap : Int) (rest : List Pt2) (p : Pt2) : Pt2 -> Prop
 | base : p ∈ rest -> Conn gap rest p p
 | step {x y : Pt2} : Conn gap rest p x -> y ∈ rest -> far x y <= gap -> Conn gap rest p y
def minus (l c : List Pt2) : List Pt2 := l.filter fun x => !decide (x ∈ c)
theorem minus_mem {l c : List Pt2} {x : Pt2} : x ∈ minus l c ↔ x ∈ l /\ x ∉ c := by simp [minus]
inductive ClS (gap : Int) : List Pt2 -> List (List Pt2) -> Prop
 | nil : ClS gap [] []
 | cons {p : Pt2} {r c : List Pt2} {cs : List (List Pt2)} : ByRows c -> (∀ x, x ∈ c ↔ Conn gap (p :: r) p x) -> ClS gap (minus (p :: r) c) cs -> ClS gap (p :: r) (c :: cs)
theorem ClS.uniq {gap : Int} {l : List Pt2} {a b : List (List Pt2)} (ha : ClS gap l a) (hb : ClS gap l b) : a = b := by
 induction ha generalizing b with
 | nil => cases hb; rfl
 | cons h1 h2 h3 ih =>
  cases hb with
  | cons g1 g2 g3 =>
   have e := ByRows.ext h1 g1 fun p => (h2 p).trans (g2 p).symm
   subst e
   rw [ih g3]
theorem Conn.mem {gap : Int} {rest : List Pt2} {p x : Pt2} (h : Conn gap rest p x) : x ∈ rest := by
 cases h with
 | base h => exact h
 | step _ h _ => exact h
theorem conn_closed {gap : Int} {rest one : List Pt2} {p : Pt2} (hp : p ∈ one) (hc : ∀ x ∈ one, Conn gap rest p x) (hcl : ∀ x ∈ one, ∀ y ∈ rest, far x y <= gap -> y ∈ one) (x : Pt2) : x ∈ one ↔ Conn gap rest p x := by
 constructor
 ·exact hc x
 ·intro h
  induction h with
  | base _ => exact hp
  | step _ h2 h3 ih => exact hcl _ ih _ h2 h3
theorem ByRows.filter {l : List Pt2} (h : ByRows l) (f : Pt2 -> Bool) : ByRows (l.filter f) := List.Pairwise.filter f h
theorem ByRows.minus {l : List Pt2} (h : ByRows l) (c : List Pt2) : ByRows (minus l c) := h.filter _
theorem ByRows.nodup {l : List Pt2} (h : ByRows l) : l.Nodup := by
 refine List.Pairwise.imp ?_ h
 intro a b hab e
 subst e
 exact before_irrefl hab
theorem minus_len {p : Pt2} {r c : List Pt2} (hp : p ∈ c) : (minus (p :: r) c).length <= r.length := by
 unfold minus
 rw [List.filter_cons, if_neg (by simp [hp])]
 exact List.length_filter_le _ _
theorem sub_len : ∀ {a b : List Pt2}, a.Nodup -> (∀ x ∈ a, x ∈ b) -> a.length <= b.length
 | [], b, _, _ => Nat.zero_le _
 | x :: a, b, hn, h => by
  rw [List.nodup_cons] at hn
  have hx := h x (by simp)
  have := sub_len (a := a) (b := b.erase x) hn.2 fun y hy => by
   rw [List.mem_erase_of_ne (fun e => hn.1 (by rw [<- e]; exact hy))]
   exact h y (by simp [hy])
  rw [List.length_erase_of_mem hx] at this
  have hpos : 0 < b.length := List.length_pos_of_mem hx
  simp only [List.length_cons]; omega
end Go.Ad

namespace Go.Ad
open Go.Ab Go.Proofs
set_option linter.unusedSimpArgs false
theorem d_compact0 : DK 56 [noPts] fun d => d = noPts := by
 refine dfn_ok cp56 rfl GHro fun Z0 lo => ?_
 repeat (first|refine dw_p rfl ?_|refine dw_nil ?_|refine ds_seq ?_|refine ds_ops mix (fun base => ?_))
 refine ds_if rfl (fun _ => ?_) (fun h => by cases h)
 repeat (first|refine dw_p rfl ?_|refine dw_nil ?_|refine ds_seq ?_|refine ds_ops mix (fun base => ?_))
 exact ds_ret ⟨_, rfl, rfl, rfl⟩
theorem sortedP_self {l : List Pt2} (h : ByRows l) : sortedP l = l := ByRows.ext (sortedP_rows l) h fun p => sortedP_mem
theorem setLs_take {α : Type} : ∀ (cs l : List α) (i : Nat), (setLs l i cs).take i = l.take i
 | [], _, _ => rfl
 | c :: cs, l, i => by
  simp only [setLs]
  have h := setLs_take cs (l.set i c) (i + 1)
  have h2 := congrArg (List.take i) h
  rw [List.take_take, List.take_take, Nat.min_eq_left (by omega)] at h2
  rw [h2, List.take_set_of_le (Nat.le_refl i)]
theorem setLs_pt : ∀ (l : List Pt2) (i : Nat) (x : Pt2), setLs (l.flatMap ptF) (i * 2) (ptF x) = (l.set i x).flatMap ptF
 | [], i, x => by simp [setLs, ptF]
 | y :: l, 0, x => by simp [setLs, ptF]
 | y :: l, i + 1, x => by
  have := setLs_pt l i x
  simp only [setLs, ptF] at this
  simp only [List.flatMap_cons, List.set_cons_succ, setLs, ptF]
  rw [show (i + 1) * 2 = i * 2 + 1 + 1 by omega]
  simp only [List.cons_append, List.nil_append, List.set_cons_succ]
  rw [<- this]
theorem setLs_ptD (l : List Pt2) (i : Nat) (x : Pt2) : stB (.data (l.flatMap ptF)) (i * 2) [.f (.c (.int .i64 x.1)), .f (.c (.int .i64 x.2))] = .data ((l.set i x).flatMap ptF) := congrArg Bk.data (setLs_pt l i x)
theorem SortedP.step {l : List Pt2} (hs : SortedP l) {i j : Nat} {x y : Pt2} (hi : l[i]? = some x) (hj : l[j]? = some y) (hij : i < j) (hne : y ≠ x) : before x y = true := before_total (by rw [hs i j x y hi hj hij]; decide) (fun e => hne e)
theorem ByRows.snoc {c : List Pt2} (h : ByRows c) {y x : Pt2} (hl : c.getLast? = some y) (hb : before y x = true) : ByRows (c ++ [x]) := by
 rw [ByRows, List.pairwise_append]
 refine ⟨h, by simp, fun a ha b hb' => ?_⟩
 simp only [List.mem_singleton] at hb'
 subst hb'
 obtain ⟨i, hi⟩ := List.getElem?_of_mem ha
 rw [List.getLast?_eq_getElem?] at hl
 have h1 := (List.getElem?_eq_some_iff.1 hi).1
 have h2 := (List.getElem?_eq_some_iff.1 hl).1
 by_cases e : i = c.length - 1
 ·subst e; rw [hi] at hl; rw [Option.some.inj hl]; exact hb
 ·have := List.pairwise_iff_getElem.1 h i (c.length - 1) h1 h2 oM
  rw [(List.getElem?_eq_some_iff.1 hi).2, (List.getElem?_eq_some_iff.1 hl).2] at this
  exact before_trans this hb
set_option maxHeartbeats 8000000 in
theorem dx_compact {l : List Pt2} (hs : SortedP l) (hp : 0 < l.length) (hb : l.length < 1000000) : DKX 56 [.one (.own 0 0 l.length 2)] [(0, .data (l.flatMap ptF))] 1 fun d S nk => nk = 1 /\ d = .one (.own 0 0 (sortedP l).length 2) /\ ∃ rest, S = [(0, .data ((sortedP l).flatMap ptF ++ rest))] := by
 refine dxk_ok cp56 rfl fun Z β H lo => ?_
 obtain ⟨n, hn⟩ : ∃ n, l.length = n := ⟨_, rfl⟩
 have hflat := ptF_len l
 rw [hn]
 repeat (first|refine dw_p rfl ?_|refine dw_nil ?_|refine ds_seq ?_|refine ds_ops mix (fun base => ?_))
 refine ds_if rfl (fun ht => ?_) (fun ht => ?_)
 ·simp at ht
  obtain ⟨x, rfl⟩ : ∃ x, l = [x] := by
   match l, hn, hp with
   | [x], _, _ => exact ⟨x, rfl⟩
   | x :: y :: l, hn, _ => simp at hn; omega
  simp at hn
  subst hn
  have hso : sortedP [x] = [x] := sortedP_self (by simp)
  rw [hso]
  repeat (first|refine dw_p rfl ?_|refine dw_nil ?_|refine ds_seq ?_|refine ds_ops mix (fun base => ?_))
  exact ds_ret ⟨_, rfl, rfl, _, SubA.refl _, rfl, rfl, [], by simp⟩
 ·simp at ht
  repeat (first|refine dw_p rfl ?_|refine dw_nil ?_|refine ds_seq ?_|refine ds_ops mix (fun base => ?_)|refine ds_skip ?_|refine ds_block ?_)
  refine ds_loop (fun m E S nk => ∃ k : Nat, 1 <= k /\ k <= n /\ m = n - k /\ ByRows (l.take k) /\ E = [(0, .one (.own 0 0 n 2)), (3, .int k)] /\ S = [(0, .data (l.flatMap ptF))] /\ nk = 1) ⟨n - 1, _, _, _, [], ?wk, 1, oM, oM, rfl, ?h1, rfl, rfl, rfl⟩ ?_
  case wk => exact wkA
  case h1 =>
   cases l with
   | nil => simp at hp
   | cons x l => simp
  rintro m E S nk ⟨k, hk1, hkn, hm, hro, rfl, rfl, rfl⟩
  repeat (first|refine dw_p rfl ?_|refine dw_nil ?_|refine ds_seq ?_|refine ds_ops mix (fun base => ?_))
  refine ds_if rfl (fun ht2 => ?_) (fun ht2 => ?_)
  ·simp at ht2
   obtain ⟨j, rfl⟩ : ∃ j, k = j + 1 := ⟨k - 1, oM⟩
   obtain ⟨x, hx⟩ : ∃ x, l[j + 1]? = some x := ⟨_, List.getElem?_eq_getElem oM⟩
   obtain ⟨y, hy⟩ : ∃ y, l[j]? = some y := ⟨_, List.getElem?_eq_getElem oM⟩
   have e1 : subL (l.flatMap ptF) (Int.toNat ((j + 1 : Nat) : Int) * 2) 2 = some (ptF x) := ptF_at hx
   have e2 : subL (l.flatMap ptF) (Int.toNat ((j : Nat) : Int) * 2) 2 = some (ptF y) := ptF_at hy
   repeat (first|refine dw_p rfl ?_|refine dw_io0 rfl rfl oM oM ?_|refine dw_l (dload_data rfl rfl aM rfl) ?_|refine ds_seq ?_|refine ds_ops mix (fun base => ?_)|refine ds_skip ?_|refine ds_block ?_)
   rw [show IntKind.i64.wrap (((j + 1 : Nat) : Int) - 1) = (j : Nat) by rw [dwrap (by omega) (by omega)]; omega]
   repeat (first|refine dw_io0 rfl rfl oM oM ?_|refine dw_l (dload_data rfl rfl aM rfl) ?_)
   refine dw_p (d_eqpt (p := x) (q := y) rfl rfl) ?_
   repeat (first|refine dw_nil ?_)
   refine ds_if rfl (fun he => ?_) (fun he => ?_)
   ·have hxy : x = y := by simpa using he
    subst hxy
    repeat (first|refine dw_p rfl ?_|refine ds_seq ?_|refine ds_ops mix (fun base => ?_))
    refine dw_slo (o' := (j + 1) * 2) (n' := n - (j + 1)) rfl rfl rfl oM oM oM rfl ?_
    repeat (first|refine dw_p rfl ?_|refine dw_nil ?_|refine ds_seq ?_|refine ds_ops mix (fun base => ?_)|refine ds_block ?_)
    refine ds_loop (fun m E S nk => ∃ (w k2 : Nat) (cur : List Pt2), 1 <= k2 /\ j + 1 + k2 <= n /\ m = n - (j + 1 + k2) /\ j + 1 <= w /\ w <= j + k2 /\ cur.length = n /\ ByRows (cur.take w) /\ (∀ p, p ∈ cur.take w ↔ p ∈ l.take (j + 1 + k2)) /\ (∀ i, j + k2 <= i -> cur[i]? = l[i]?) /\ cur[w - 1]? = l[j + k2]? /\ E = [(0, .one (.own 0 0 n 2)), (3, .int w), (4, .one (.own 0 ((j + 1) * 2) (n - (j + 1)) 2)), (5, .int k2)] /\ S = [(0, .data (cur.flatMap ptF))] /\ nk = 1) ⟨n - (j + 1 + 1), _, _, _, [], ?wk1, j + 1, 1, l, by omega, by omega, rfl, by omega, by omega, hn, hro, fun p => ?hm1, fun i _ => rfl, by rw [Nat.add_sub_cancel, hx, hy], rfl, rfl, rfl⟩ ?_
    case wk1 => exact wkA
    case hm1 =>
     rw [List.take_add_one (i := j + 1), hx, List.mem_append]
     simp only [Option.toList_some, List.mem_singleton]
     refine ⟨.inl, fun h => h.elim id fun e => ?_⟩
     subst e
     rw [List.take_add_one, hy]
     simp
    rintro m E S nk ⟨w, k2, cur, hk2, hkn2, hm2, hw1, hw2, hcl, hcr, hcm, hcu, hla, rfl, rfl, rfl⟩
    have hcf := ptF_len cur
    repeat (first|refine dw_p rfl ?_|refine dw_nil ?_|refine ds_seq ?_|refine ds_ops mix (fun base => ?_))
    refine ds_if rfl (fun ht3 => ?_) (fun ht3 => ?_)
    ·simp at ht3
     obtain ⟨i, rfl⟩ : ∃ i, k2 = i + 1 := ⟨k2 - 1, oM⟩
     obtain ⟨a, ha⟩ : ∃ a, l[j + 1 + (i + 1)]? = some a := ⟨_, List.getElem?_eq_getElem oM⟩
     obtain ⟨b, hb2⟩ : ∃ b, l[j + (i + 1)]? = some b := ⟨_, List.getElem?_eq_getElem oM⟩
     have ha' : cur[j + 1 + (i + 1)]? = some a := by rw [hcu _ (by omega)]; exact ha
     have hb' : cur[j + 1 + i]? = some b := by rw [hcu _ (by omega), <- hb2]; congr 1; omega
     have e3 : subL (cur.flatMap ptF) ((j + 1) * 2 + Int.toNat ((i + 1 : Nat) : Int) * 2) 2 = some (ptF a) := by
      have := ptF_at ha'
      rwa [Nat.add_mul] at this
     have e4 : subL (cur.flatMap ptF) ((j + 1) * 2 + Int.toNat ((i : Nat) : Int) * 2) 2 = some (ptF b) := by
      have := ptF_at hb'
      rwa [Nat.add_mul] at this
     repeat (first|refine dw_p rfl ?_|refine ds_seq ?_|refine ds_ops mix (fun base => ?_)|refine ds_skip ?_|refine ds_block ?_)
     refine dw_io rfl rfl oM oM ?_
     repeat (first|refine dw_p rfl ?_|refine dw_l (dload_data rfl rfl aM rfl) ?_)
     rw [show IntKind.i64.wrap (((i + 1 : Nat) : Int) - 1) = (i : Nat) by rw [dwrap (by omega) (by omega)]; omega]
     refine dw_io rfl rfl oM oM ?_
     repeat (first|refine dw_l (dload_data rfl rfl aM rfl) ?_)
     refine dw_p (d_eqpt (neg := true) (p := a) (q := b) rfl rfl) ?_
     repeat (first|refine dw_nil ?_)
     refine ds_if rfl (fun hne => ?_) (fun heq => ?_)
     ·have hab : a ≠ b := by simpa using hne
      have hba : before b a = true := hs.step hb2 ha oM hab
      repeat (first|refine dw_p rfl ?_|refine ds_seq ?_|refine ds_ops mix (fun base => ?_))
      refine dw_io rfl rfl oM oM ?_
      repeat (first|refine dw_io0 rfl rfl oM oM ?_|refine dw_l (dload_data rfl rfl aM rfl) ?_)
      refine dw_st rfl rfl rfl rfl rfl ?hle rfl ?_
      case hle => show Int.toNat (w : Int) * 2 + 2 <= (cur.flatMap ptF).length; rw [hcf]; simp; omega
      rw [Int.toNat_natCast w, show stB (.data (cur.flatMap ptF)) (w * 2) (List.map DC.f (ptF a)) = .data ((cur.set w a).flatMap ptF) from setLs_ptD cur w a]
      repeat (first|refine dw_p rfl ?_|refine dw_nil ?_|refine ds_ops mix (fun base => ?_))
      have htk : (cur.set w a).take (w + 1) = cur.take w ++ [a] := by
       rw [List.take_add_one, List.take_set_of_le (Nat.le_refl w), List.getElem?_set_self (by omega)]
       rfl
      refine ⟨n - (j + 1 + (i + 1 + 1)), by omega, _, _, _, [], ?wk2, w + 1, i + 1 + 1, cur.set w a, by omega, by omega, rfl, by omega, by omega, by simpa using hcl, ?hr, fun p => ?hm2, fun q hq => ?hu, ?hl, rfl, rfl, rfl⟩
      case wk2 => exact wkA
      case hr =>
       rw [htk]
       refine hcr.snoc (y := b) ?_ hba
       rw [List.getLast?_eq_getElem?, List.length_take, Nat.min_eq_left (by omega), List.getElem?_take, if_pos (by omega), hla]
       exact hb2
      case hm2 =>
       rw [htk, List.mem_append, hcm, show j + 1 + (i + 1 + 1) = j + 1 + (i + 1) + 1 by omega, List.take_add_one, ha, List.mem_append]
       simp
      case hu => rw [List.getElem?_set_ne (by omega), hcu q (by omega)]
      case hl => rw [Nat.add_sub_cancel, List.getElem?_set_self (by omega), <- ha]; congr 1; omega
     ·have hab : a = b := by simpa using heq
      subst hab
      repeat (first|refine dw_p rfl ?_|refine dw_nil ?_|refine ds_ops mix (fun base => ?_)|refine ds_skip ?_)
      refine ⟨n - (j + 1 + (i + 1 + 1)), oM, _, _, _, [], ?wk3, w, i + 1 + 1, cur, oM, oM, rfl, oM, oM, hcl, hcr, fun p => ?hm3, fun q hq => hcu q oM, ?hl3, rfl, rfl, rfl⟩
      case wk3 => exact wkA
      case hm3 =>
       rw [hcm, show j + 1 + (i + 1 + 1) = j + 1 + (i + 1) + 1 by omega, List.take_add_one (i := j + 1 + (i + 1)), ha, List.mem_append]
       simp only [Option.toList_some, List.mem_singleton]
       refine ⟨.inl, fun h => h.elim id fun e => ?_⟩
       subst e
       refine List.mem_of_getElem? (i := j + (i + 1)) ?_
       rw [List.getElem?_take, if_pos (by omega)]
       exact hb2
      case hl3 => rw [hla, hb2, <- ha]; congr 1; omega
    ·simp at ht3
     have hk : j + 1 + k2 = n := by omega
     have hso : sortedP l = cur.take w := ByRows.ext (sortedP_rows l) hcr fun p => by
      rw [sortedP_mem, hcm, hk, List.take_of_length_le (by omega)]
     repeat (first|refine dw_p rfl ?_|refine ds_seq ?_|refine ds_ops mix (fun base => ?_)|refine ds_exit ?_)
     refine dw_slo (o' := w * 2) (n' := n - w) rfl rfl rfl oM oM oM rfl ?_
     refine dw_clr (zf := [.c (.int .i64 0), .c (.int .i64 0)]) rfl rfl ?hle ⟨rfl, rfl, rfl, rfl, trivial⟩ rfl (by decide) oM rfl ?_
     case hle => rw [hcf]; omega
     repeat (first|refine dw_p rfl ?_|refine dw_nil ?_|refine ds_seq ?_|refine ds_ops mix (fun base => ?_))
     refine dw_slo (o' := 0) (n' := w) rfl rfl rfl oM oM oM rfl ?_
     repeat (first|refine dw_p rfl ?_|refine dw_nil ?_)
     have hwl : (sortedP l).length = w := by rw [hso, List.length_take]; omega
     rw [hwl]
     refine ds_ret ⟨_, rfl, rfl, _, SubA.cons (k := 0) rfl (SubA.nil _), rfl, rfl, (setLs (cur.flatMap ptF) (w * 2) (reps' [.c (.int .i64 0), .c (.int .i64 0)] (n - w))).drop (w * 2), ?_⟩
     have h1 : (sortedP l).flatMap ptF = (setLs (cur.flatMap ptF) (w * 2) (reps' [.c (.int .i64 0), .c (.int .i64 0)] (n - w))).take (w * 2) := by
      rw [setLs_take, hso]
      have hsp : cur.flatMap ptF = (cur.take w).flatMap ptF ++ (cur.drop w).flatMap ptF := by rw [<- List.flatMap_append, List.take_append_drop]
      have hl2 : ((cur.take w).flatMap ptF).length = w * 2 := by rw [ptF_len, List.length_take]; omega
      rw [hsp, <- hl2, List.take_left]
     rw [h1, List.take_append_drop]
   ·have hxy : x ≠ y := by simpa using he
    have hyx : before y x = true := hs.step hy hx oM hxy
    repeat (first|refine dw_p rfl ?_|refine dw_nil ?_|refine ds_ops mix (fun base => ?_)|refine ds_skip ?_)
    refine ⟨n - (j + 1 + 1), oM, _, _, _, [], ?wk5, j + 1 + 1, oM, oM, rfl, ?hr5, rfl, rfl, rfl⟩
    case wk5 => exact wkA
    case hr5 =>
     rw [List.take_add_one, hx]
     refine hro.snoc (y := y) ?_ hyx
     rw [List.getLast?_eq_getElem?, List.length_take, Nat.min_eq_left (by omega), List.getElem?_take, if_pos (by omega), Nat.add_sub_cancel]
     exact hy
  ·simp at ht2
   obtain rfl : k = n := by omega
   rw [List.take_of_length_le (by omega)] at hro
   rw [sortedP_self hro, hn]
   repeat (first|refine dw_p rfl ?_|refine dw_nil ?_|refine ds_seq ?_|refine ds_ops mix (fun base => ?_)|refine ds_exit ?_)
   exact ds_ret ⟨_, rfl, rfl, _, SubA.refl _, rfl, rfl, [], by simp⟩
end Go.Ad

namespace Go.Ad
open Go.Ab
def InR (R : RowsL) (p : Pt2) : Prop := ∃ e ∈ R, e.1 = p.2 /\ p.1 ∈ e.2
structure RowsS (R : RowsL) : Prop where
 nd : (R.map (·.1)).Nodup
 str : ∀ e ∈ R, e.2.Pairwise (· < ·)
 len : ∀ e ∈ R, e.2.length < 1000000
theorem RowsS.ok {R : RowsL} (h : RowsS R) : RowsOk R := ⟨h.nd, fun e he i j x y hij hi hj => by
 obtain ⟨hi', hi2⟩ := List.getElem?_eq_some_iff.1 hi
 obtain ⟨hj', hj2⟩ := List.getElem?_eq_some_iff.1 hj
 have := List.pairwise_iff_getElem.1 (h.str e he) i j hi' hj' hij
 omega, h.len⟩
theorem RowsS.nil : RowsS [] := ⟨by simp, by simp, by simp⟩
theorem RowsS.lft {R : RowsL} (h : RowsS R) (y low high : Int) : RowsS (lft R y low high) := by
 refine ⟨?_, fun e he => ?_, fun e he => ?_⟩
 ·have : (Ad.lft R y low high).map (·.1) = R.map (·.1) := by unfold Ad.lft; rw [List.map_map]; rfl
  rw [this]; exact h.nd
 ·simp only [Ad.lft, List.mem_map] at he
  obtain ⟨e', he', rfl⟩ := he
  simp only
  split
  ·exact (h.str e' he').filter _
  ·exact h.str e' he'
 ·simp only [Ad.lft, List.mem_map] at he
  obtain ⟨e', he', rfl⟩ := he
  have := h.len e' he'
  simp only
  split
  ·exact Nat.lt_of_le_of_lt (List.length_filter_le _ _) this
  ·exact this
def inBox (y low high : Int) (p : Pt2) : Prop := p.2 = y /\ low <= p.1 /\ p.1 <= high
theorem tkn_mem {R : RowsL} {y low high : Int} {p : Pt2} : p ∈ tkn R y low high ↔ InR R p /\ inBox y low high p := by
 simp only [tkn, List.mem_flatMap, List.mem_filter, List.mem_map, decide_eq_true_eq, InR, inBox, inB', Bool.and_eq_true]
 constructor
 ·rintro ⟨e, ⟨he, hy⟩, x, ⟨hx, h1, h2⟩, rfl⟩
  exact ⟨⟨e, he, hy, hx⟩, rfl, h1, h2⟩
 ·rintro ⟨⟨e, he, h1, h2⟩, h3, h4, h5⟩
  exact ⟨e, ⟨he, by rw [h1, h3]⟩, p.1, ⟨h2, h4, h5⟩, by rw [<- h3]⟩
theorem lft_in {R : RowsL} {y low high : Int} {p : Pt2} (h : (R.map (·.1)).Nodup) : InR (lft R y low high) p ↔ InR R p /\ ¬ inBox y low high p := by
 simp only [lft, InR, List.mem_map, inBox]
 constructor
 ·rintro ⟨e, ⟨e', he', rfl⟩, h1, h2⟩
  simp only at h1 h2
  split at h2
  ·rename_i hy
   simp only [List.mem_filter, inB', Bool.not_eq_true', Bool.and_eq_false_iff, decide_eq_false_iff_not] at h2
   refine ⟨⟨e', he', h1, h2.1⟩, ?_⟩
   rintro ⟨_, h3, h4⟩
   rcases h2.2 with h|h
   ·exact h h3
   ·exact h h4
  ·rename_i hy
   refine ⟨⟨e', he', h1, h2⟩, ?_⟩
   rintro ⟨h3, _⟩
   exact hy (by rw [h1, h3])
 ·rintro ⟨⟨e, he, h1, h2⟩, h3⟩
  refine ⟨_, ⟨e, he, rfl⟩, h1, ?_⟩
  simp only
  split
  ·rename_i hy
   simp only [List.mem_filter, inB', Bool.not_eq_true', Bool.and_eq_false_iff, decide_eq_false_iff_not]
   refine ⟨h2, ?_⟩
   by_cases h4 : low <= p.1
   ·right; intro h5; exact h3 ⟨by rw [<- h1, hy], h4, h5⟩
   ·left; exact h4
  ·exact h2
theorem tkn_nodup {R : RowsL} (h : RowsS R) (y low high : Int) : (tkn R y low high).Nodup := by
 by_cases hy : ∃ (i : Nat) (xs : List Int), R[i]? = some (y, xs)
 ·obtain ⟨i, xs, hi⟩ := hy
  obtain ⟨t1, _⟩ := tkn_at (low := low) (high := high) h.nd hi
  rw [t1]
  have hs := h.str _ (List.mem_of_getElem? hi)
  have : (xs.filter (inB' low high)).Pairwise (· < ·) := hs.filter _
  have h2 : (xs.filter (inB' low high)).Nodup := List.Pairwise.imp (fun {a b} hab => Int.ne_of_lt hab) this
  rw [List.Nodup, List.pairwise_map]
  exact List.Pairwise.imp (fun {a b} hab e => hab (by injection e)) h2
 ·have hn : ∀ e ∈ R, e.1 ≠ y := fun e he h => hy (by
   obtain ⟨i, hi⟩ := List.getElem?_of_mem he
   exact ⟨i, e.2, by rw [hi, <- h]⟩)
  rw [(tkn_none (low := low) (high := high) hn).1]
  exact List.nodup_nil
def Holds (R : RowsL) (rest : List Pt2) : Prop := RowsS R /\ ∀ p, InR R p ↔ p ∈ rest
theorem minus_length {rest t : List Pt2} (hr : rest.Nodup) (ht : t.Nodup) (hs : ∀ x ∈ t, x ∈ rest) : (minus rest t).length + t.length = rest.length := by
 have h1 : (minus rest t ++ t).Perm rest := by
  refine (List.perm_ext_iff_of_nodup ?_ hr).2 fun x => ?_
  ·rw [List.nodup_append]
   refine ⟨List.Pairwise.filter _ hr, ht, fun a ha b hb e => ?_⟩
   subst e
   exact (minus_mem.1 ha).2 hb
  ·rw [List.mem_append, minus_mem]
   constructor
   ·rintro (h|h)
    ·exact h.1
    ·exact hs x h
   ·intro h
    by_cases hx : x ∈ t
    ·exact .inr hx
    ·exact .inl ⟨h, hx⟩
 have := h1.length_eq
 simpa using this
theorem Holds.take {R : RowsL} {rest : List Pt2} (h : Holds R rest) (hr : rest.Nodup) (y low high : Int) : Holds (lft R y low high) (minus rest (tkn R y low high)) /\ (tkn R y low high).Nodup /\ (∀ x, x ∈ tkn R y low high ↔ x ∈ rest /\ inBox y low high x) /\ (minus rest (tkn R y low high)).length + (tkn R y low high).length = rest.length := by
 have hm : ∀ x, x ∈ tkn R y low high ↔ x ∈ rest /\ inBox y low high x := fun x => by rw [tkn_mem, h.2]
 refine ⟨⟨h.1.lft y low high, fun p => ?_⟩, tkn_nodup h.1 y low high, hm, minus_length hr (tkn_nodup h.1 y low high) fun x hx => ((hm x).1 hx).1⟩
 rw [lft_in h.1.nd, minus_mem, hm, h.2]
 constructor
 ·rintro ⟨a, b⟩; exact ⟨a, fun c => b c.2⟩
 ·rintro ⟨a, b⟩; exact ⟨a, fun c => b ⟨a, c⟩⟩
theorem only {t : List Pt2} {p : Pt2} (hn : t.Nodup) (h : ∀ x ∈ t, x = p) : t = [] \/ t = [p] := by
 match t, hn, h with
 | [], _, _ => exact .inl rfl
 | [x], _, h => right; rw [h x (by simp)]
 | x :: y :: t, hn, h =>
  rw [List.nodup_cons] at hn
  have h1 := h x (by simp)
  have h2 := h y (by simp)
  exact absurd (by rw [h1, h2]; simp) hn.1
theorem Holds.set {R : RowsL} {rest : List Pt2} (h : Holds R rest) {i : Nat} {x y : Int} {xs : List Int} (hi : R[i]? = some (y, xs)) (hlt : ∀ z ∈ xs, z < x) (hl : xs.length + 1 < 1000000) : Holds (R.set i (y, xs ++ [x])) (rest ++ [(x, y)]) := by
 have hil : i < R.length := (List.getElem?_eq_some_iff.1 hi).1
 have hmem : (y, xs) ∈ R := List.mem_of_getElem? hi
 refine ⟨⟨?_, fun e he => ?_, fun e he => ?_⟩, fun p => ?_⟩
 ·have : (R.set i (y, xs ++ [x])).map (·.1) = R.map (·.1) := by
   rw [List.map_set]
   apply List.ext_getElem?
   intro j
   rw [List.getElem?_set]
   split
   ·rename_i e; subst e
    have := (List.getElem?_eq_some_iff.1 hi).2
    simp [hil, this]
   ·rfl
  rw [this]; exact h.1.nd
 ·rcases List.mem_or_eq_of_mem_set he with h'|h'
  ·exact h.1.str e h'
  ·subst h'
   simp only
   rw [List.pairwise_append]
   exact ⟨h.1.str _ hmem, by simp, fun a ha b hb => by simp at hb; subst hb; exact hlt a ha⟩
 ·rcases List.mem_or_eq_of_mem_set he with h'|h'
  ·exact h.1.len e h'
  ·subst h'; simpa using hl
 ·have hset : ∀ e, e ∈ R.set i (y, xs ++ [x]) ↔ e = (y, xs ++ [x]) \/ (e ∈ R /\ e.1 ≠ y) := by
   intro e
   constructor
   ·intro he
    obtain ⟨j, hj⟩ := List.getElem?_of_mem he
    rw [List.getElem?_set] at hj
    split at hj
    ·left
     exact (Option.some.inj (by simpa [hil] using hj)).symm
    ·rename_i hne
     right
     refine ⟨List.mem_of_getElem? hj, fun hy => hne ?_⟩
     have hjl : j < R.length := (List.getElem?_eq_some_iff.1 hj).1
     have k1 : (R.map (·.1))[j]? = some y := by simp [hj, hy]
     have k2 : (R.map (·.1))[i]? = some y := by simp [hi]
     exact (List.getElem?_inj (by simpa using hil) h.1.nd).1 (k2.trans k1.symm)
   ·rintro (rfl|⟨he, hne⟩)
    ·exact List.mem_iff_getElem?.2 ⟨i, by rw [List.getElem?_set_self hil]⟩
    ·obtain ⟨j, hj⟩ := List.getElem?_of_mem he
     refine List.mem_iff_getElem?.2 ⟨j, ?_⟩
     rw [List.getElem?_set_ne (fun e => hne ?_)]
     ·exact hj
     ·subst e; rw [hi] at hj; rw [<- Option.some.inj hj]
  rw [List.mem_append, List.mem_singleton, <- h.2]
  constructor
  ·rintro ⟨e, he, h1, h2⟩
   rcases (hset e).1 he with rfl|⟨he', hne⟩
   ·simp only at h1 h2
    rcases List.mem_append.1 h2 with h3|h3
    ·exact .inl ⟨_, hmem, h1, h3⟩
    ·right
     simp at h3
     exact Prod.ext h3 h1.symm
   ·exact .inl ⟨e, he', h1, h2⟩
  ·rintro (⟨e, he, h1, h2⟩|rfl)
   ·by_cases hy : e.1 = y
    ·have : e = (y, xs) := by
      obtain ⟨j, hj⟩ := List.getElem?_of_mem he
      have hjl : j < R.length := (List.getElem?_eq_some_iff.1 hj).1
      have k1 : (R.map (·.1))[j]? = some y := by simp [hj, hy]
      have k2 : (R.map (·.1))[i]? = some y := by simp [hi]
      have := (List.getElem?_inj (by simpa using hil) h.1.nd).1 (k2.trans k1.symm)
      subst this
      rw [hi] at hj; exact (Option.some.inj hj).symm
     subst this
     exact ⟨_, (hset _).2 (.inl rfl), h1, List.mem_append_left _ h2⟩
    ·exact ⟨e, (hset e).2 (.inr ⟨he, hy⟩), h1, h2⟩
   ·exact ⟨_, (hset _).2 (.inl rfl), rfl, by simp⟩
theorem Holds.push {R : RowsL} {rest : List Pt2} (h : Holds R rest) {x y : Int} (hn : ∀ e ∈ R, e.1 ≠ y) : Holds (R ++ [(y, [x])]) (rest ++ [(x, y)]) := by
 refine ⟨⟨?_, fun e he => ?_, fun e he => ?_⟩, fun p => ?_⟩
 ·rw [List.map_append, List.nodup_append]
  refine ⟨h.1.nd, by simp, fun a ha b hb e => ?_⟩
  simp at hb
  subst hb; subst e
  obtain ⟨e', he', h'⟩ := List.mem_map.1 ha
  exact hn e' he' h'
 ·rcases List.mem_append.1 he with h'|h'
  ·exact h.1.str e h'
  ·simp at h'; subst h'; simp
 ·rcases List.mem_append.1 he with h'|h'
  ·exact h.1.len e h'
  ·simp at h'; subst h'; simp
 ·rw [List.mem_append, List.mem_singleton, <- h.2]
  constructor
  ·rintro ⟨e, he, h1, h2⟩
   rcases List.mem_append.1 he with h'|h'
   ·exact .inl ⟨e, h', h1, h2⟩
   ·simp at h'; subst h'
    simp at h1 h2
    exact .inr (Prod.ext h2 h1.symm)
  ·rintro (⟨e, he, h1, h2⟩|rfl)
   ·exact ⟨e, List.mem_append_left _ he, h1, h2⟩
   ·exact ⟨(y, [x]), List.mem_append_right _ (by simp), rfl, by simp⟩
end Go.Ad

namespace Go.Ad
open Go.Ab Go.Proofs
set_option linter.unusedSimpArgs false
def ptsF (l : List Pt2) : FD := .sl 2 l.length (l.flatMap ptF)
def ptssD (cs : List (List Pt2)) : DV := .one (.f (.sl 1 cs.length (cs.map ptsF)))
theorem ptsF_at {cs : List (List Pt2)} {i : Nat} {c : List Pt2} (h : cs[i]? = some c) : subL (cs.map ptsF) (i * 1) 1 = some [ptsF c] := by
 have hi : i < cs.length := (List.getElem?_eq_some_iff.1 h).1
 rw [subL_of (by simp; omega)]
 rw [Nat.mul_one, List.drop_eq_getElem_cons (by simpa using hi)]
 have : cs[i] = c := (List.getElem?_eq_some_iff.1 h).2
 simp [this]
def S3 (R : RowsL) (left : Int) : Bx := [(0, .mt (rowsM R)), (1, .cells [.om 0]), (2, .cells [.f (.c (.int .i64 left))])]
def S4 (R : RowsL) (left : Int) (A : List FD) : Bx := [(0, .mt (rowsM R)), (1, .cells [.om 0]), (2, .cells [.f (.c (.int .i64 left))]), (3, .data A)]
def S5 (R : RowsL) (left : Int) (A B : List FD) : Bx := [(0, .mt (rowsM R)), (1, .cells [.om 0]), (2, .cells [.f (.c (.int .i64 left))]), (3, .data A), (4, .data B)]
theorem wkS3 {ρ : List (Nat × Nat)} {n0 : Nat} {S : Bx} {R : RowsL} {left : Int} (h0 : lk S (rn ρ 0) = some (.mt (rowsM R))) (h1 : lk S (rn ρ 1) = some (.cells [.om (rn ρ 0)])) (h2 : lk S (rn ρ 2) = some (.cells [.f (.c (.int .i64 left))])) (hn : 3 <= n0) : WkS ρ n0 S (S3 R left) := by
 have hb : ∀ k, k < 3 -> Nat.blt k n0 = true := fun k hk => Nat.ble_eq_true_of_le oM
 have hb0 := hb 0 oM
 refine ⟨?_, smM_rows n0 R, hb 0 oM, h1, ?_, hb 1 oM, h2, rfl, hb 2 oM, trivial⟩
 ·rw [h0]; simp only [rnB, mtMap_rows]
 ·simp only [smB, allB, smC, hb0]
theorem wkS4 {ρ : List (Nat × Nat)} {n0 : Nat} {S : Bx} {R : RowsL} {left : Int} {A : List FD} (h0 : lk S (rn ρ 0) = some (.mt (rowsM R))) (h1 : lk S (rn ρ 1) = some (.cells [.om (rn ρ 0)])) (h2 : lk S (rn ρ 2) = some (.cells [.f (.c (.int .i64 left))])) (h3 : lk S (rn ρ 3) = some (.data A)) (hn : 4 <= n0) : WkS ρ n0 S (S4 R left A) := by
 have hb : ∀ k, k < 4 -> Nat.blt k n0 = true := fun k hk => Nat.ble_eq_true_of_le oM
 have hb0 := hb 0 oM
 refine ⟨?_, smM_rows n0 R, hb 0 oM, h1, ?_, hb 1 oM, h2, rfl, hb 2 oM, h3, rfl, hb 3 oM, trivial⟩
 ·rw [h0]; simp only [rnB, mtMap_rows]
 ·simp only [smB, allB, smC, hb0]
theorem wkS5 {ρ : List (Nat × Nat)} {n0 : Nat} {S : Bx} {R : RowsL} {left : Int} {A B : List FD} (h0 : lk S (rn ρ 0) = some (.mt (rowsM R))) (h1 : lk S (rn ρ 1) = some (.cells [.om (rn ρ 0)])) (h2 : lk S (rn ρ 2) = some (.cells [.f (.c (.int .i64 left))])) (h3 : lk S (rn ρ 3) = some (.data A)) (h4 : lk S (rn ρ 4) = some (.data B)) (hn : 5 <= n0) : WkS ρ n0 S (S5 R left A B) := by
 have hb : ∀ k, k < 5 -> Nat.blt k n0 = true := fun k hk => Nat.ble_eq_true_of_le oM
 have hb0 := hb 0 oM
 refine ⟨?_, smM_rows n0 R, hb 0 oM, h1, ?_, hb 1 oM, h2, rfl, hb 2 oM, h3, rfl, hb 3 oM, h4, rfl, hb 4 oM, trivial⟩
 ·rw [h0]; simp only [rnB, mtMap_rows]
 ·simp only [smB, allB, smC, hb0]
theorem okM_rows {k : Nat} {ok : Nat -> Nat -> Nat -> Prop} (R : RowsL) : okM k ok (rowsM R) := by
 unfold rowsM
 induction R with
 | nil => trivial
 | cons e R ih => exact ih
theorem noKM_snoc {d : DC} (hd : noKC 0 d = true) (y : Int) : ∀ R : RowsL, noKM 0 (rowsM R ++ [(y, .out d)]) = true
 | [] => by
  show noKM 0 [(y, .out d)] = true
  simp only [noKM, hd]
 | e :: R => noKM_snoc hd y R
theorem rowsM_snoc (R : RowsL) (y : Int) (xs : List Int) : rowsM (R ++ [(y, xs)]) = rowsM R ++ [(y, .row (xs.map iF))] := by simp [rowsM]
theorem set_snoc {α : Type} (l : List α) (a b : α) : (l ++ [a]).set l.length b = l ++ [b] := by
 rw [List.set_append_right _ _ (Nat.le_refl _)]; simp
theorem minus_app (l a b : List Pt2) : minus (minus l a) b = minus l (a ++ b) := by
 unfold minus
 rw [List.filter_filter]
 congr 1
 funext x
 by_cases h1 : x ∈ a <;> by_cases h2 : x ∈ b <;> simp [h1, h2]
theorem minus_nil (l : List Pt2) : minus l [] = l := by unfold minus; exact List.filter_eq_self.2 (by simp)
theorem rows_of_sorted {c : List Pt2} (hs : SortedP c) (hn : c.Nodup) : ByRows c := by
 rw [ByRows, List.pairwise_iff_getElem]
 intro i j hi hj hij
 refine hs.step (List.getElem?_eq_getElem hi) (List.getElem?_eq_getElem hj) hij fun e => ?_
 have := (List.getElem?_inj (i := i) (j := j) hi hn).1 (by rw [List.getElem?_eq_getElem hi, List.getElem?_eq_getElem hj, e])
 omega
theorem far_le (q y : Pt2) (g : Int) : far q y <= g ↔ q.1 - g <= y.1 /\ y.1 <= q.1 + g /\ q.2 - g <= y.2 /\ y.2 <= q.2 + g := by
 simp only [far]; omega
set_option maxHeartbeats 4000000 in
theorem clu_after {Z0 : Nat -> Prop} {lo : Nat} {R : RowsL} {L g : Int} {out : List (List Pt2)} {c P : List Pt2} {N j : Nat} (hc : 0 < c.length) (hcn : c.Nodup) (hcl : c.length < 1000000) (hol : out.length < 1000000) {Q : Exit -> DEnv -> Bx -> Nat -> Prop}
  (hQ : Q .normal [(1, .int g), (7, .one (.ptr 2 0)), (10, .one (.fn 57 [(1, 0), (2, 0)])), (11, .one (.own 6 0 (out.length + 1) 1)), (49, ptsD P), (50, .int N), (51, .int j)] [(0, .mt (rowsM R)), (1, .cells [.om 0]), (2, .cells [.f (.c (.int .i64 L))]), (6, .data ((out ++ [sortedP c]).map ptsF))] 7) :
  DPS (Par.base Tryz.prog 0 (H00 1) Z0 lo) f43.n (.seq (.ops f43r26 0) (.ops f43r27 0)) Q [(1, .int g), (7, .one (.ptr 2 0)), (10, .one (.fn 57 [(1, 0), (2, 0)])), (11, .one (.own 3 0 out.length 1)), (14, .one (.own 4 0 c.length 2)), (49, ptsD P), (50, .int N), (51, .int j)] (S5 R L (out.map ptsF) (c.flatMap ptF)) 5 := by
 repeat (first|refine dw_p rfl ?_|refine ds_seq ?_|refine ds_ops mix (fun base => ?_))
 refine dw_cx rfl rfl rfl (dx_sort (k := 4) (l := c) rfl hc oM _ _ _ _ _) ?_
 rintro _ _ _ ⟨rfl, rfl, c', hperm, hsort, rfl⟩
 have hfl : (c'.flatMap ptF).length = c.length * 2 := by rw [ptF_len, hperm.length_eq]
 have hcl' : c'.length = c.length := hperm.length_eq
 have hc' : c' = sortedP c := ByRows.ext (rows_of_sorted hsort (hperm.nodup_iff.2 hcn)) (sortedP_rows c) (fun p => by rw [hperm.mem_iff, sortedP_mem])
 rw [<- hc'] at hQ
 have hok := okM_rows (k := 4) (ok := okW (c'.flatMap ptF)) R
 have hol' : (out.map ptsF).length = out.length * 1 := by simp
 refine dw_nil ?_
 refine ds_frz 4 rfl okZ okZ ?_
 refine ds_wk [] (n0 := 5) (E0 := [(1, .int g), (7, .one (.ptr 2 0)), (10, .one (.fn 57 [(1, 0), (2, 0)])), (11, .one (.own 3 0 out.length 1)), (14, .one (.f (.sl 2 c.length (c'.flatMap ptF)))), (49, ptsD P), (50, .int N), (51, .int j)]) (S0 := S4 R L (out.map ptsF)) ⟨(by repeat (first|exact trivial|refine ⟨by first|rfl|exact cgI oM oM, rfl, ?_⟩)), wkS4 (congrArg (fun z => some (Bk.mt z)) (mtMap_rows _ R)) rfl rfl rfl oM, rfl, rfl⟩ ?_
 repeat (first|refine dw_p rfl ?_|refine dw_a rfl ?_|refine ds_ops mix (fun base => ?_))
 refine dw_app (q := [.sl 2 c.length (c'.flatMap ptF)]) rfl rfl rfl (subL_all _ hol') ⟨rfl, rfl, _, rfl, rfl⟩ oM oM (by decide) rfl ?_
 have hD : out.map ptsF ++ [.sl 2 c.length (c'.flatMap ptF)] = (out ++ [c']).map ptsF := by simp [ptsF, hcl']
 refine dw_p rfl ?_
 rw [hD]
 refine dw_keep (SubA.cons (k := 1) rfl (SubA.cons (k := 7) rfl (SubA.cons (k := 10) rfl (SubA.cons (k := 11) rfl (SubA.cons (k := 49) rfl (SubA.cons (k := 50) rfl (SubA.cons (k := 51) rfl (SubA.nil _)))))))) (SubA.cons (k := 0) rfl (SubA.cons (k := 1) rfl (SubA.cons (k := 2) rfl (SubA.cons (k := 6) rfl (SubA.nil _))))) ?_
 exact dw_nil hQ
set_option maxHeartbeats 4000000 in
theorem clu_rows {Z0 : Nat -> Prop} {lo : Nat} {gap : Int} {P : List Pt2} (hP : ByRows P) (hl : P.length < 900000) {Q : Exit -> DEnv -> Bx -> Nat -> Prop}
  (hQ : ∀ R, Holds R P -> Q (.exit 0) [(1, .int gap), (4, .one (.f (.c .nils))), (5, ptsD P), (6, .one (.ptr 1 0)), (7, .one (.ptr 2 0))] (S3 R P.length) 3) :
  DPS (Par.base Tryz.prog 0 (H00 1) Z0 lo) f43.n (.loop f43b0) Q [(1, .int gap), (4, .one (.f (.c .nils))), (5, ptsD P), (6, .one (.ptr 1 0)), (7, .one (.ptr 2 0)), (27, ptsD P), (28, .int P.length), (29, .int 0)] (S3 [] P.length) 3 := by
 refine ds_loop (fun m E S nk => ∃ (i : Nat) (R : RowsL), i + m = P.length /\ Holds R (P.take i) /\ E = [(1, .int gap), (4, .one (.f (.c .nils))), (5, ptsD P), (6, .one (.ptr 1 0)), (7, .one (.ptr 2 0)), (27, ptsD P), (28, .int P.length), (29, .int i)] /\ S = S3 R P.length /\ nk = 3) ⟨P.length, _, _, _, [], ?wk, 0, [], by omega, ⟨RowsS.nil, fun p => by simp [InR]⟩, rfl, rfl, rfl⟩ ?_
 case wk => exact ⟨(by repeat (first|exact trivial|refine ⟨by first|rfl|exact cgI oM oM, rfl, ?_⟩)), wkS3 rfl rfl rfl oM, rfl, rfl⟩
 rintro m E S nk ⟨i, R, him, hR, rfl, rfl, rfl⟩
 repeat (first|refine dw_p rfl ?_|refine dw_nil ?_|refine ds_seq ?_|refine ds_ops mix (fun base => ?_))
 refine ds_if rfl (fun ht => ?_) (fun ht => ?_)
 ·simp at ht
  obtain ⟨⟨px, py⟩, hp⟩ : ∃ p, P[i]? = some p := ⟨_, List.getElem?_eq_getElem oM⟩
  have e1 := ptF_at hp
  have htk : P.take (i + 1) = P.take i ++ [(px, py)] := by rw [List.take_add_one, hp]; rfl
  have hPl : ∀ e ∈ R, e.2.length <= i := fun e he => by
   have h1 := hR.1.str e he
   have h2 : (e.2.map fun x => (x, e.1)).Nodup := by
    rw [List.Nodup, List.pairwise_map]
    exact List.Pairwise.imp (fun {a b} hab h => by injection h; omega) h1
   have h3 := sub_len h2 (b := P.take i) fun x hx => by
    obtain ⟨z, hz, rfl⟩ := List.mem_map.1 hx
    exact (hR.2 _).1 ⟨e, he, rfl, hz⟩
   have h4 := List.length_take_le i P
   simp at h3; omega
  repeat (first|refine dw_p rfl ?_|refine dw_l rfl ?_|refine dw_lk rfl ?_|refine dw_if rfl rfl oM (by decide) aM ?_|refine dw_a rfl ?_|refine dw_st rfl rfl rfl rfl rfl (Nat.le_of_ble_eq_true rfl) rfl ?_|refine dw_nil ?_|refine ds_seq ?_|refine ds_ops mix (fun base => ?_)|refine ds_skip ?_|refine ds_block ?_)
  by_cases hy : ∃ (i0 : Nat) (xs : List Int), R[i0]? = some (py, xs)
  ·obtain ⟨i0, xs, hi0⟩ := hy
   obtain ⟨M, hM⟩ : ∃ M, (xs.map iF).length = M := ⟨_, rfl⟩
   have hM' : xs.length = M := by rw [<- hM]; simp
   have hMi := hPl _ (List.mem_of_getElem? hi0)
   simp only at hMi
   have hlt : ∀ z ∈ xs, z < px := fun z hz => by
    have : (z, py) ∈ P.take i := (hR.2 _).1 ⟨_, List.mem_of_getElem? hi0, rfl, hz⟩
    obtain ⟨k, hk⟩ := List.getElem?_of_mem this
    rw [List.getElem?_take] at hk
    split at hk
    ·rename_i hki
     obtain ⟨a1, a2⟩ := List.getElem?_eq_some_iff.1 hk
     obtain ⟨b1, b2⟩ := List.getElem?_eq_some_iff.1 hp
     have := List.pairwise_iff_getElem.1 hP k i a1 b1 hki
     rw [a2, b2, before_iff] at this
     simp at this
     exact this
    ·cases hk
   have hset := hR.set hi0 hlt oM
   rw [<- htk] at hset
   have hes : ∀ d : DC, ((rowsM R).set i0 (py, .out d))[i0]? = some (py, .out d) := fun d => by
    have : i0 < (rowsM R).length := by have := (List.getElem?_eq_some_iff.1 hi0).1; simpa [rowsM] using this
    rw [List.getElem?_set_self this]
   have hfs : ∀ (d : DC) (j : Nat) (e' : Int × ME), j < i0 -> ((rowsM R).set i0 (py, .out d))[j]? = some e' -> e'.1 ≠ py := fun d j e' hj he => by
    rcases set_at he with ⟨h, _⟩|⟨_, h⟩
    ·omega
    ·exact first_at hR.1.nd hi0 j e' hj h
   refine dw_mlook (y := py) (q := xs.map iF) rfl rfl rfl (rowsM_at hi0) (first_at hR.1.nd hi0) rfl (noKM_rows R) rfl rfl ?_
   rw [hM]
   repeat (first|refine dw_p rfl ?_|refine dw_l rfl ?_|refine dw_ai rfl rfl rfl ?_)
   refine dw_app (l' := xs.map iF) (q := [iF px]) rfl rfl rfl (subL_all _ oM) ⟨rfl, rfl, _, rfl, rfl⟩ oM oM (by decide) rfl ?_
   refine dw_mupd (y := py) rfl rfl rfl rfl (hes _) (hfs _) rfl ?_
   rw [List.set_set]
   have hq : (xs.map iF ++ [iF px]).length = M + 1 := by simp; omega
   refine dw_att 0 6 i0 rfl rfl (by rw [hq]; exact hes _) rfl (noKM_set rfl py R i0) rfl rfl ?_
   rw [List.set_set]
   have hm1 : rowsM (R.set i0 (py, xs ++ [px])) = (rowsM R).set i0 (py, .row (xs.map iF ++ [iF px])) := by rw [rowsM_set]; simp
   repeat (first|refine dw_p rfl ?_|refine dw_nil ?_|refine ds_ops mix (fun base => ?_))
   refine ⟨m - 1, oM, _, _, _, [], ?wk1, i + 1, R.set i0 (py, xs ++ [px]), oM, hset, rfl, rfl, rfl⟩
   case wk1 => exact ⟨(by repeat (first|exact trivial|refine ⟨by first|rfl|exact cgI oM oM, rfl, ?_⟩)), wkS3 (congrArg (fun z => some (Bk.mt z)) hm1.symm) rfl rfl oM, rfl, rfl⟩
  ·have hn : ∀ e ∈ R, e.1 ≠ py := fun e he h => hy (by
    obtain ⟨k, hk⟩ := List.getElem?_of_mem he
    exact ⟨k, e.2, by rw [hk, <- h]⟩)
   have hn' : ∀ e ∈ rowsM R, e.1 ≠ py := fun e he => by
    simp only [rowsM, List.mem_map] at he
    obtain ⟨e', he', rfl⟩ := he
    exact hn e' he'
   have hpush := hR.push (x := px) hn
   rw [<- htk] at hpush
   refine dw_mlook0 rfl rfl rfl hn' rfl ?_
   repeat (first|refine dw_p rfl ?_|refine dw_l rfl ?_|refine dw_ai rfl rfl rfl ?_)
   refine dw_virt 39 1 rfl ?_
   refine dw_app (l' := []) (q := [iF px]) rfl rfl rfl rfl ⟨rfl, rfl, _, rfl, rfl⟩ oM oM (by decide) rfl ?_
   refine dw_mupd0 (y := py) rfl rfl rfl rfl hn' rfl ?_
   refine dw_att (y := py) (q := [] ++ [iF px]) 0 6 (rowsM R).length rfl rfl (by simp) rfl (noKM_snoc rfl py R) rfl rfl ?_
   rw [set_snoc]
   repeat (first|refine dw_p rfl ?_|refine dw_nil ?_|refine ds_ops mix (fun base => ?_))
   refine ⟨m - 1, oM, _, _, _, [], ?wk2, i + 1, R ++ [(py, [px])], oM, hpush, rfl, rfl, rfl⟩
   case wk2 => exact ⟨(by repeat (first|exact trivial|refine ⟨by first|rfl|exact cgI oM oM, rfl, ?_⟩)), wkS3 (congrArg (fun z => some (Bk.mt z)) (rowsM_snoc R py [px]).symm) rfl rfl oM, rfl, rfl⟩
 ·simp at ht
  rw [List.take_of_length_le (by omega)] at hR
  refine ds_keep (SubA.cons (k := 1) rfl (SubA.cons (k := 4) rfl (SubA.cons (k := 5) rfl (SubA.cons (k := 6) rfl (SubA.cons (k := 7) rfl (SubA.nil _)))))) (SubA.cons (k := 0) rfl (SubA.cons (k := 1) rfl (SubA.cons (k := 2) rfl (SubA.nil _)))) ?_
  exact ds_exit (hQ R hR)
theorem ptsF_eq (l : List Pt2) : l.flatMap ptF = (ptsC l).map .c := by
 induction l with
 | nil => rfl
 | cons p l ih => rw [List.flatMap_cons, ih]; rfl
theorem ptsC_closed (l : List Pt2) : ∀ c ∈ ptsC l, c.closed = true := by
 intro c hc
 obtain ⟨p, _, hp⟩ := List.mem_flatMap.1 hc
 simp only [ptC, List.mem_cons, List.not_mem_nil, or_false] at hp
 rcases hp with rfl|rfl <;> rfl
theorem rd_of_own {Z : Nat -> Prop} {H' : Hp} {lo hi : Nat} {l : List Pt2} {v : V} (h : POwn H' lo hi l v) (hz : ∀ b, lo <= b -> b < hi -> Z b) : RDV Z H' nob (ptsD l) v := by
 obtain ⟨⟨h1, h2⟩, h3⟩ := h
 rcases h2 with ⟨rfl, h0⟩|⟨b, ex, rfl, hlo, hr⟩
 ·obtain rfl : l = [] := List.eq_nil_of_length_eq_zero h0
  exact ⟨_, rfl, .nil 2⟩
 ·have hb := h3 b rfl
  refine ⟨_, rfl, .sl (fun _ => hz b hb.1 hb.2) (by rw [ptF_len]) (Nat.le_refl _) (by rw [<- h1]; exact hr.2) fun i d c hd hc => ?_⟩
  rw [ptsF_eq, List.getElem?_map, hc] at hd
  obtain rfl := Option.some.inj hd
  exact .c c (ptsC_closed l c (List.mem_of_getElem? hc))
theorem tdiv_tmod {a b : Int} (hb : 0 < b) : (if a.tmod b < 0 then a.tdiv b - 1 else a.tdiv b) = a / b := by
 have h1 := Int.tmod_add_mul_tdiv a b
 have h2 := tmod_bd a hb
 have h3 := Int.emod_add_mul_ediv a b
 have h4 := Int.emod_nonneg a (by omega : b ≠ 0)
 have h5 := Int.emod_lt_of_pos a hb
 split
 ·rename_i h
  have key : b * (a.tdiv b - 1 - a / b) = a % b - a.tmod b - b := by
   rw [Int.mul_sub, Int.mul_sub]; omega
  have : a.tdiv b - 1 - a / b = 0 := by
   by_cases hc : a.tdiv b - 1 - a / b = 0
   ·exact hc
   ·exfalso
    rcases Int.lt_or_gt_of_ne hc with hlt|hgt
    ·have : b * (a.tdiv b - 1 - a / b) <= b * (-1) := Int.mul_le_mul_of_nonneg_left oM oM
     omega
    ·have : b * 1 <= b * (a.tdiv b - 1 - a / b) := Int.mul_le_mul_of_nonneg_left oM oM
     omega
  omega
 ·rename_i h
  have key : b * (a.tdiv b - a / b) = a % b - a.tmod b := by
   rw [Int.mul_sub]; omega
  have : a.tdiv b - a / b = 0 := by
   by_cases hc : a.tdiv b - a / b = 0
   ·exact hc
   ·exfalso
    rcases Int.lt_or_gt_of_ne hc with hlt|hgt
    ·have : b * (a.tdiv b - a / b) <= b * (-1) := Int.mul_le_mul_of_nonneg_left oM oM
     omega
    ·have : b * 1 <= b * (a.tdiv b - a / b) := Int.mul_le_mul_of_nonneg_left oM oM
     omega
  omega
theorem tdiv_bd {a b : Int} (h1 : -1000000000000000000 < a) (h2 : a < 1000000000000000000) : -1000000000000000000 < a.tdiv b /\ a.tdiv b < 1000000000000000000 := by
 have h : (a.tdiv b).natAbs = a.natAbs / b.natAbs := Int.natAbs_tdiv a b
 have h3 : a.natAbs / b.natAbs <= a.natAbs := Nat.div_le_self _ _
 rw [<- h] at h3
 omega
theorem rfloor_ok {H : Hp} {a b : Int} (hb : 0 < b) (h1 : -1000000000000000000 < a) (h2 : a < 1000000000000000000) : ACalls Tryz.prog 0 67 [.int a, .int b] H fun v H' => v = .int (a / b) /\ H' = H := by
 have hd := tdiv_bd (b := b) h1 h2
 have hf := tdiv_tmod (a := a) hb
 refine pfn_ok cp67 (by simp [f67]) fun hwf => ?_
 repeat (first|refine pw_mvt rfl ?_|refine pw_mvc ?_|refine pw_nil ?_|refine ps_seq ?_|refine ps_ops0 mix ?_)
 refine pw_quo rfl rfl rfl oM ?_
 rw [wrap_i64 (n := a.tdiv b) (by omega) (by omega)]
 repeat (first|refine pw_mvt rfl ?_|refine pw_nil ?_|refine ps_seq ?_|refine ps_ops0 mix ?_)
 refine pw_rem rfl rfl rfl oM ?_
 repeat (first|refine pw_p rfl rfl ?_|refine pw_nil ?_)
 refine ps_if rfl rfl (fun ht => ?_) (fun ht => ?_)
 ·repeat (first|refine pw_mvt rfl ?_|refine pw_p rfl rfl ?_|refine pw_nil ?_|refine ps_seq ?_|refine ps_ops0 mix ?_)
  simp at ht
  rw [if_pos ht] at hf
  refine ps_ret ⟨_, rfl, ?_, rfl⟩
  rw [wrap_i64 (by omega) (by omega), hf]
 ·repeat (first|refine pw_mvt rfl ?_|refine pw_nil ?_|refine ps_seq ?_|refine ps_ops0 mix ?_|refine ps_skip ?_)
  simp at ht
  rw [if_neg (by omega)] at hf
  exact ps_ret ⟨_, rfl, by rw [hf], rfl⟩
def betw (a b k n : Int) : Int := (2 * (a * n + k * (b - a)) + n) / (2 * n)
theorem mul_bd {a b A B : Int} (h1 : -A <= a) (h2 : a <= A) (h3 : -B <= b) (h4 : b <= B) : -(A * B) <= a * b /\ a * b <= A * B := by
 have hA : 0 <= A := by omega
 have hB : 0 <= B := by omega
 have : (a * b).natAbs <= (A * B).natAbs := by
  rw [Int.natAbs_mul, Int.natAbs_mul]
  exact Nat.mul_le_mul oM oM
 have hp : 0 <= A * B := Int.mul_nonneg hA hB
 omega
theorem between_ok {H : Hp} {a b k n : Int} (ha : -1000000 <= a) (ha' : a <= 1000000) (hb : -1000000 <= b) (hb' : b <= 1000000) (hk : 0 <= k) (hk' : k <= 1000000) (hn : 0 < n) (hn' : n <= 1000000) : ACalls Tryz.prog 0 114 [.int a, .int b, .int k, .int n] H fun v H' => v = .int (betw a b k n) /\ H' = H := by
 have m1 := mul_bd (a := a) (b := n) (A := 1000000) (B := 1000000) oM oM oM oM
 have m2 := mul_bd (a := k) (b := b - a) (A := 1000000) (B := 2000000) oM oM oM oM
 have hd := tdiv_bd (a := 2 * (a * n + k * (b - a)) + n) (b := 2 * n) oM oM
 have hf := tdiv_tmod (a := 2 * (a * n + k * (b - a)) + n) (b := 2 * n) oM
 refine pfn_ok cp114 (by simp [f114]) fun hwf => ?_
 repeat (first|refine pw_mvt rfl ?_|refine pw_mvc ?_|refine pw_p rfl rfl ?_|refine pw_nil ?_|refine ps_seq ?_|refine ps_ops0 mix ?_)
 rw [wrap_i64 (n := a * n) (by omega) (by omega), wrap_i64 (n := b - a) (by omega) (by omega), wrap_i64 (n := k * (b - a)) (by omega) (by omega), wrap_i64 (n := a * n + k * (b - a)) (by omega) (by omega), wrap_i64 (n := 2 * (a * n + k * (b - a))) (by omega) (by omega), wrap_i64 (n := 2 * (a * n + k * (b - a)) + n) (by omega) (by omega), wrap_i64 (n := 2 * n) (by omega) (by omega)]
 have hbt : betw a b k n = (2 * (a * n + k * (b - a)) + n) / (2 * n) := rfl
 rw [hbt]
 clear hbt
 generalize 2 * (a * n + k * (b - a)) + n = N at *
 refine pw_quo rfl rfl rfl oM ?_
 rw [wrap_i64 (n := N.tdiv (2 * n)) (by omega) (by omega)]
 repeat (first|refine pw_mvt rfl ?_|refine pw_p rfl rfl ?_|refine pw_nil ?_|refine ps_seq ?_|refine ps_ops0 mix ?_)
 rw [wrap_i64 (n := 2 * n) (by omega) (by omega)]
 refine pw_rem rfl rfl rfl oM ?_
 repeat (first|refine pw_p rfl rfl ?_|refine pw_nil ?_)
 refine ps_if rfl rfl (fun ht => ?_) (fun ht => ?_)
 ·repeat (first|refine pw_mvt rfl ?_|refine pw_p rfl rfl ?_|refine pw_nil ?_|refine ps_seq ?_|refine ps_ops0 mix ?_)
  simp at ht
  rw [if_pos ht] at hf
  refine ps_ret ⟨_, rfl, ?_, rfl⟩
  rw [wrap_i64 (by omega) (by omega), hf]
 ·repeat (first|refine pw_mvt rfl ?_|refine pw_nil ?_|refine ps_seq ?_|refine ps_ops0 mix ?_|refine ps_skip ?_)
  simp at ht
  rw [if_neg (by omega)] at hf
  exact ps_ret ⟨_, rfl, by rw [hf], rfl⟩
def nearB (l : List Pt) : Bool := l.all fun p => decide (-1000 <= p.1) && decide (p.1 <= 1000) && decide (-1000 <= p.2) && decide (p.2 <= 1000)
theorem near_ro {H : Hp} {l : List Pt} {v : V} (hl : Pts H l v) (hn : l.length < 1000000000000) : ACalls Tryz.prog 0 46 [v] H fun v _ => v = .bool (nearB l) := by
 refine pfn_ok cp46 (by simp [f46]) fun hwf => ?_
 have hlen := hl.len
 repeat (first|refine pw_mvt rfl ?_|refine pw_mvc ?_|refine pw_p rfl aM ?_|refine pw_nil ?_|refine ps_seq ?_|refine ps_ops0 mix ?_|refine ps_block ?_)
 refine ps_loop (fun m E H' => Pts H' l v /\ ∃ k : Nat, k + m = l.length /\ E = [(5, v), (6, .int l.length), (7, .int k)] /\ nearB (l.take k) = true) (m := l.length) ⟨_, (SubE.cons (k := 5) rfl (SubE.cons (k := 6) rfl (SubE.cons (k := 7) rfl (SubE.nil _)))), hl, 0, oM, rfl, rfl⟩ ?_
 rintro m E H' hwf' ⟨hl', k, hk, rfl, hno⟩
 repeat (first|refine pw_p rfl rfl ?_|refine pw_nil ?_|refine ps_seq ?_|refine ps_ops0 mix ?_)
 refine ps_if rfl rfl (fun ht => ?_) (fun ht => ?_)
 ·simp at ht
  obtain ⟨p, hp⟩ : ∃ p, l[k]? = some p := ⟨_, List.getElem?_eq_getElem oM⟩
  obtain ⟨b, o, e1, e2⟩ := hl'.at hp .i64
  obtain ⟨H3, s1, hw3, hx3, hb3, hn3⟩ := new_var hwf' [.int .i64 0, .int .i64 0] (ptC p) rfl
  repeat (first|refine pw_ln rfl rfl aM ?_|refine pw_p rfl aM ?_|refine ps_seq ?_|refine ps_ops0 mix ?_|refine ps_skip ?_|refine ps_block ?_)
  have c0 := hb3.cell (i := 0) rfl
  have c1 := hb3.cell (i := 1) rfl
  refine pw_a rfl rfl (pw_stn rfl rfl rfl rfl s1 trivial ?_)
  repeat (first|refine pw_pick rfl rfl (by first|exact fun _ => rfl|exact fun h => (by simp only [if_pos h]; rfl)|exact fun h => (by simp only [if_pos h]; assumption)) (by first|exact fun _ => rfl|exact fun h => (by simp only [if_pos h]; rfl)|exact fun h => (by simp only [if_pos h]; assumption)) ?_|refine pw_mvt rfl ?_|refine pw_p rfl rfl ?_|refine pw_l1 rfl rfl (by assumption) ?_|refine pw_pg rfl rfl (by first|exact fun _ => rfl|exact fun _ => (by assumption)|exact fun h => (by simp only [if_pos h]; rfl)|exact fun h => (by simp only [if_pos h]; assumption)) ?_|refine pw_lg1 rfl rfl (by first|exact fun _ => rfl|exact fun h => (by simp only [if_pos h]; rfl)|exact fun h => (by simp only [if_pos h]; assumption)) (by assumption) ?_|refine pw_nil ?_|refine ps_seq ?_|refine ps_ops0 mix ?_)
  have hpk : nearB (l.take (k + 1)) = (nearB (l.take k) && nearB [p]) := by
   rw [List.take_add_one, hp]
   simp [nearB]
  refine ps_if rfl rfl (fun ht2 => ?_) (fun ht2 => ?_)
  ·repeat (first|refine pw_mvc ?_|refine pw_nil ?_|refine ps_seq ?_|refine ps_ops0 mix ?_)
   refine ps_ret ⟨_, rfl, ?_⟩
   congr 2
   symm
   simp at ht2
   simp only [nearB, List.all_eq_false]
   refine ⟨p, List.mem_of_getElem? hp, ?_⟩
   simp
   omega
  ·repeat (first|refine pw_mvt rfl ?_|refine pw_p rfl rfl ?_|refine pw_nil ?_|refine ps_ops0 mix ?_|refine ps_skip ?_)
   simp at ht2
   refine ⟨m - 1, oM, _, (SubE.cons (k := 5) rfl (SubE.cons (k := 6) rfl (SubE.cons (k := 7) rfl (SubE.nil _)))), hl'.ext hx3, k + 1, oM, ?_, ?_⟩
   ·rw [wrap_i64 (by omega) (by omega)]; rfl
   ·rw [hpk, hno]
    simp [nearB]
    omega
 ·simp at ht
  obtain rfl : k = l.length := by omega
  rw [List.take_length] at hno
  refine ps_exit ?_
  repeat (first|refine pw_mvc ?_|refine pw_nil ?_|refine ps_seq ?_|refine ps_ops0 mix ?_)
  exact ps_ret ⟨_, rfl, by rw [hno]⟩
theorem near_ok {H : Hp} {l : List Pt} {v : V} (hl : Pts H l v) (hn : l.length < 1000000000000) : ACalls Tryz.prog 0 46 [v] H fun v H' => v = .bool (nearB l) /\ H' = H :=
 (ACalls.pure (near_ro (hl.le (Le.ro H)) hn) (fun v _ h => by rw [h]; rfl)).mono fun v H' ⟨⟨_, h⟩, e⟩ => ⟨h, e⟩
def lineK (p q : Pt) (n : Int) (k : Nat) : Pt := (betw p.1 q.1 k n, betw p.2 q.2 k n)
def lineP (p q : Pt) : List Pt := if far p q = 0 then [p] else (List.range ((far p q).toNat + 1)).map (lineK p q (far p q))
theorem far_bd {B : Int} {p q : Pt} (hp : Small B p) (hq : Small B q) : 0 <= far p q /\ far p q <= 2 * B := by
 obtain ⟨p1, p2, p3, p4⟩ := hp
 obtain ⟨q1, q2, q3, q4⟩ := hq
 simp only [far]
 omega
theorem rline_ro {H : Hp} {p q : Pt} (hp : Small 1000 p) (hq : Small 1000 q) : ACalls Tryz.prog 0 50 [Go.Ab.ptV p, Go.Ab.ptV q] H fun v H' => POwn H' H.nx H'.nx (lineP p q) v := by
 have hfb := far_bd hp hq
 have hp' : Small 1000000000000000000 p := by obtain ⟨p1, p2, p3, p4⟩ := hp; exact ⟨oM, oM, oM, oM⟩
 have hq' : Small 1000000000000000000 q := by obtain ⟨p1, p2, p3, p4⟩ := hq; exact ⟨oM, oM, oM, oM⟩
 refine pfn_ok cp50 (by simp [f50]) fun hwf => ?_
 obtain ⟨hw1, hx1, hb1⟩ := new_box hwf (ptC p) rfl
 obtain ⟨hw2, hx2, hb2⟩ := new_box hw1 (ptC q) rfl
 refine ps_seq (ps_ops0 mix (pw_a rfl rfl (pw_a rfl rfl (pw_mvc (pw_nil ?_)))))
 replace hb1 := hb1.ext hx2
 have hn2 : ((H.push (.row (ptC p).length (ptC p) .lf true)).push (.row (ptC q).length (ptC q) .lf true)).nx = H.nx + 2 := rfl
 generalize ((H.push _).push _) = H2 at *
 have l1 := hb1.2
 have l2 := hb2.2
 refine ps_seq (ps_ops0 mix ?_)
 refine pw_ln rfl rfl l1 (pw_ln rfl rfl l2 (pw_cfp rfl rfl (rfar_ok hp' hq') (by repeat (first|exact trivial|refine ⟨by assumption, ?_⟩)) ?_))
 obtain ⟨hw3, hx3, hb3⟩ := new_box (n := 0) hw2 [] rfl
 refine pw_a (bk := .row 0 [] .lf true) (g := fun b => .one (.slc b 0 0 0 2 true)) rfl rfl ?_
 refine pw_mvt rfl (pw_mvt rfl (pw_nil ?_))
 replace hb1 := hb1.ext hx3
 replace hb2 := hb2.ext hx3
 have hP : POwn (H2.push (.row 0 [] .lf true)) (H.nx + 2) (H.nx + 3) [] (.one (.slc H2.nx 0 0 0 2 true)) := POwn.none (by rw [Hp.get_push, if_pos rfl]) (by omega) (by omega)
 have hn3 : (H2.push (.row 0 [] .lf true)).nx = H.nx + 3 := by simp [hn2]
 refine ps_sub (SubE.cons (k := 2) rfl (SubE.cons (k := 3) rfl (SubE.cons (k := 5) rfl (SubE.cons (k := 6) rfl (SubE.nil _))))) ?_
 generalize (H2.push _) = H3 at *
 replace l1 := hb1.2
 generalize hn : far p q = n at *
 repeat (first|refine pw_mvt rfl ?_|refine pw_p rfl rfl ?_|refine pw_nil ?_|refine ps_seq ?_|refine ps_ops0 mix ?_)
 refine ps_if rfl rfl (fun ht => ?_) (fun ht => ?_)
 ·simp at ht
  repeat (first|refine pw_ln rfl rfl aM ?_|refine ps_seq ?_|refine ps_ops0 mix ?_)
  refine pw_b1 rfl rfl rfl ?_
  refine pw_mvt rfl (pw_nil (ps_ret ⟨_, rfl, ?_⟩))
  rw [lineP, if_pos (by omega)]
  refine ⟨⟨rfl, .inr ⟨H3.nx, true, rfl, by omega, ?_⟩⟩, fun b hb => by obtain rfl := Option.some.inj hb; simp; omega⟩
  exact Row.new (ptC p)
 ·simp at ht
  repeat (first|refine pw_mvc ?_|refine pw_nil ?_|refine ps_seq ?_|refine ps_ops0 mix ?_|refine ps_skip ?_|refine ps_block ?_)
  refine ps_loop (fun m E H' => ∃ k : Nat, k + m = n.toNat + 1 /\ ∃ v, E = [(2, .one (.ptr H.nx 0)), (3, .one (.ptr (H.nx + 1) 0)), (5, .int n), (6, v), (7, .int k)] /\ H.nx + 2 <= H'.nx /\ Row H' H.nx (ptC p) /\ Row H' (H.nx + 1) (ptC q) /\ POwn H' (H.nx + 2) H'.nx ((List.range k).map (lineK p q n)) v) (m := n.toNat + 1) ⟨_, (SubE.cons (k := 2) rfl (SubE.cons (k := 3) rfl (SubE.cons (k := 5) rfl (SubE.cons (k := 6) rfl (SubE.cons (k := 7) rfl (SubE.nil _)))))), 0, oM, _, rfl, oM, hb1, hb2, hP.mono oM oM⟩ ?_
  rintro m E H' hwf' ⟨k, hk, v, rfl, hnx, g1, g2, hP'⟩
  have c0 := g1.cell (i := 0) rfl
  have c1 := g1.cell (i := 1) rfl
  have d0 := g2.cell (i := 0) rfl
  have d1 := g2.cell (i := 1) rfl
  obtain ⟨p1, p2, p3, p4⟩ := hp
  obtain ⟨q1, q2, q3, q4⟩ := hq
  repeat (first|refine pw_mvt rfl ?_|refine pw_p rfl rfl ?_|refine pw_nil ?_|refine ps_seq ?_|refine ps_ops0 mix ?_)
  refine ps_if rfl rfl (fun ht2 => ?_) (fun ht2 => ?_)
  ·simp at ht2
   repeat (first|refine pw_mvt rfl ?_|refine pw_p rfl rfl ?_|refine pw_l1 rfl rfl aM ?_|refine ps_seq ?_|refine ps_ops0 mix ?_|refine ps_skip ?_|refine ps_block ?_)
   have m1 := mul_bd (a := p.1) (b := n) (A := 1000) (B := 2000) oM oM oM oM
   have m2 := mul_bd (a := (k : Int)) (b := q.1 - p.1) (A := 2000) (B := 2000) oM oM oM oM
   have m3 := mul_bd (a := p.2) (b := n) (A := 1000) (B := 2000) oM oM oM oM
   have m4 := mul_bd (a := (k : Int)) (b := q.2 - p.2) (A := 2000) (B := 2000) oM oM oM oM
   rw [wrap_i64 (n := p.1 * n) (by omega) (by omega), wrap_i64 (n := q.1 - p.1) (by omega) (by omega), wrap_i64 (n := k * (q.1 - p.1)) (by omega) (by omega), wrap_i64 (n := p.1 * n + k * (q.1 - p.1)) (by omega) (by omega), wrap_i64 (n := 2 * (p.1 * n + k * (q.1 - p.1))) (by omega) (by omega), wrap_i64 (n := 2 * (p.1 * n + k * (q.1 - p.1)) + n) (by omega) (by omega), wrap_i64 (n := 2 * n) (by omega) (by omega)]
   refine pw_cfp rfl rfl (rfloor_ok oM oM oM) (by repeat (first|exact trivial|refine ⟨by assumption, ?_⟩)) ?_
   repeat (first|refine pw_mvt rfl ?_|refine pw_p rfl rfl ?_|refine pw_l1 rfl rfl aM ?_|refine pw_nil ?_|refine ps_seq ?_|refine ps_ops0 mix ?_)
   rw [wrap_i64 (n := p.2 * n) (by omega) (by omega), wrap_i64 (n := q.2 - p.2) (by omega) (by omega), wrap_i64 (n := k * (q.2 - p.2)) (by omega) (by omega), wrap_i64 (n := p.2 * n + k * (q.2 - p.2)) (by omega) (by omega), wrap_i64 (n := 2 * (p.2 * n + k * (q.2 - p.2))) (by omega) (by omega), wrap_i64 (n := 2 * (p.2 * n + k * (q.2 - p.2)) + n) (by omega) (by omega), wrap_i64 (n := 2 * n) (by omega) (by omega)]
   refine pw_cfp rfl rfl (rfloor_ok oM oM oM) (by repeat (first|exact trivial|refine ⟨by assumption, ?_⟩)) ?_
   repeat (first|refine pw_mvt rfl ?_|refine pw_p rfl rfl ?_|refine pw_nil ?_|refine ps_ops0 mix ?_)
   obtain ⟨v', H5, a1, a2, a3, a4, a5, a6⟩ := hP'.append1 (H1 := H'.push (.row 2 (ptC (lineK p q n k)) .lf true)) (bb := H'.nx) (p := lineK p q n k) (Nat.le_refl _) (hwf'.push _) (fun b hb => by rw [Hp.get_push, if_neg (by omega)]) (by simp) (by rw [Hp.get_push, if_pos rfl]) hnx (by simp; omega)
   refine pw_b1 (cs := ptC (lineK p q n k)) rfl rfl rfl ?_
   refine pw_app rfl rfl rfl a1 a2 trivial ?_
   repeat (first|refine pw_mvt rfl ?_|refine pw_p rfl rfl ?_|refine pw_nil ?_|refine ps_ops0 mix ?_)
   have hne : ∀ b, b < H.nx + 2 -> ownB v ≠ some b := fun b hb e => by have := hP'.2 b e; omega
   refine ⟨m - 1, oM, _, (SubE.cons (k := 2) rfl (SubE.cons (k := 3) rfl (SubE.cons (k := 5) rfl (SubE.cons (k := 6) rfl (SubE.cons (k := 7) rfl (SubE.nil _)))))), k + 1, oM, v', ?_, oM, g1.same (a4 _ oM (hne _ oM)), g2.same (a4 _ oM (hne _ oM)), ?_⟩
   ·rw [wrap_i64 (by omega) (by omega)]; rfl
   ·rw [List.range_succ, List.map_append]; exact a3
  ·simp at ht2
   obtain ⟨c, rfl⟩ := hP'.one
   refine ps_exit ?_
   repeat (first|refine pw_mvt rfl ?_|refine pw_nil ?_|refine ps_seq ?_|refine ps_ops0 mix ?_)
   refine ps_ret ⟨_, rfl, ?_⟩
   rw [lineP, hn, if_neg ht, show n.toNat + 1 = k by omega]
   exact hP'.mono oM (Nat.le_refl _)
theorem rline_ok {H : Hp} {p q : Pt} (hp : Small 1000 p) (hq : Small 1000 q) : ACalls Tryz.prog 0 50 [Go.Ab.ptV p, Go.Ab.ptV q] H fun v H' => POwn H' H.nx H'.nx (lineP p q) v /\ Ext H H' :=
 (ACalls.grow (rline_ro hp hq)).mono fun v H' ⟨H1, hg, e1, e2, e3, e4, _⟩ => by
  subst e1
  exact ⟨hg.same fun b hb => e4 b (hg.2 b hb).1, e3, e2⟩
theorem line_ro {H : Hp} {p q : Pt} (hp : Small 1000 p) (hq : Small 1000 q) : ACalls Tryz.prog 0 99 [Go.Ab.ptV p, Go.Ab.ptV q] H fun v H' => POwn H' H.nx H'.nx (lineP p q) v := by
 have hfb := far_bd hp hq
 have hp' : Small 1000000000000000000 p := by obtain ⟨p1, p2, p3, p4⟩ := hp; exact ⟨oM, oM, oM, oM⟩
 have hq' : Small 1000000000000000000 q := by obtain ⟨p1, p2, p3, p4⟩ := hq; exact ⟨oM, oM, oM, oM⟩
 refine pfn_ok cp99 (by simp [f99]) fun hwf => ?_
 obtain ⟨hw1, hx1, hb1⟩ := new_box hwf (ptC p) rfl
 obtain ⟨hw2, hx2, hb2⟩ := new_box hw1 (ptC q) rfl
 refine ps_seq (ps_ops0 mix (pw_a rfl rfl (pw_a rfl rfl (pw_mvc (pw_nil ?_)))))
 replace hb1 := hb1.ext hx2
 have hn2 : ((H.push (.row (ptC p).length (ptC p) .lf true)).push (.row (ptC q).length (ptC q) .lf true)).nx = H.nx + 2 := rfl
 generalize ((H.push _).push _) = H2 at *
 have l1 := hb1.2
 have l2 := hb2.2
 refine ps_seq (ps_seq (ps_ops0 mix ?_))
 refine pw_ln rfl rfl l1 (pw_ln rfl rfl l2 ?_)
 obtain ⟨hw3, hx3, hb3⟩ := new_box (n := 4) hw2 (ptC p ++ ptC q) rfl
 refine pw_a (bk := .row 4 (ptC p ++ ptC q) .lf true) (g := fun b => .one (.slc b 0 2 2 2 true)) rfl rfl ?_
 have hpts : Pts (H2.push (.row 4 (ptC p ++ ptC q) .lf true)) [p, q] (.one (.slc H2.nx 0 2 2 2 true)) := ⟨rfl, .inr ⟨H2.nx, 0, 2, true, rfl, hb3.2⟩⟩
 have hnear : nearB [p, q] = true := by
  obtain ⟨p1, p2, p3, p4⟩ := hp
  obtain ⟨q1, q2, q3, q4⟩ := hq
  simp [nearB]
  omega
 refine pw_cfp rfl rfl (near_ok hpts (by simp)) (by repeat (first|exact trivial|refine ⟨by assumption, ?_⟩)) ?_
 rw [hnear]
 replace hb1 := hb1.ext hx3
 replace hb2 := hb2.ext hx3
 replace l1 := hb1.2
 replace l2 := hb2.2
 have hn3 : (H2.push (.row 4 (ptC p ++ ptC q) .lf true)).nx = H.nx + 3 := by simp [hn2]
 generalize (H2.push (.row 4 (ptC p ++ ptC q) .lf true)) = H3 at *
 repeat (first|refine pw_p rfl rfl ?_|refine pw_nil ?_)
 refine ps_if rfl rfl (fun ht => by cases ht) (fun _ => ?_)
 repeat (first|refine pw_ln rfl rfl aM ?_|refine ps_seq ?_|refine ps_ops0 mix ?_|refine ps_skip ?_)
 refine pw_cfp rfl rfl (apart_ok hp' hq') (by repeat (first|exact trivial|refine ⟨by assumption, ?_⟩)) ?_
 repeat (first|refine pw_mvt rfl ?_|refine pw_p rfl rfl ?_|refine pw_nil ?_|refine ps_seq ?_|refine ps_ops0 mix ?_)
 refine ps_sub (SubE.cons (k := 2) rfl (SubE.cons (k := 3) rfl (SubE.cons (k := 5) rfl (SubE.cons (k := 17) rfl (SubE.nil _))))) ?_
 generalize hn : far p q = n at *
 refine ps_if rfl rfl (fun ht => ?_) (fun ht => ?_)
 ·simp at ht
  repeat (first|refine pw_ln rfl rfl aM ?_|refine ps_seq ?_|refine ps_ops0 mix ?_)
  refine pw_b1 rfl rfl rfl ?_
  refine pw_mvt rfl (pw_nil (ps_ret ⟨_, rfl, ?_⟩))
  rw [lineP, if_pos (by omega)]
  refine ⟨⟨rfl, .inr ⟨H3.nx, true, rfl, by omega, ?_⟩⟩, fun b hb => by obtain rfl := Option.some.inj hb; simp; omega⟩
  exact Row.new (ptC p)
 ·simp at ht
  repeat (first|refine pw_mvt rfl ?_|refine pw_p rfl rfl ?_|refine ps_seq ?_|refine ps_ops0 mix ?_|refine ps_skip ?_)
  obtain ⟨N, hN⟩ : ∃ N : Nat, n = N := ⟨n.toNat, oM⟩
  subst hN
  rw [wrap_i64 (n := (N : Int) + 1) (by omega) (by omega)]
  refine pw_mkc (n := 0) (m := N + 1) rfl rfl rfl oM oM oM ?_
  have hr0 : PRoom (H3.push (.row ((N + 1) * 2) [.int .i64 0, .int .i64 0] .lf true)) H3.nx (N + 1) [] := PRoom.new (by rw [Hp.get_push, if_pos rfl])
  have hx4 := Ext.push hw3 (Ext.refl H3) (.row ((N + 1) * 2) [.int .i64 0, .int .i64 0] .lf true)
  replace hb1 := hb1.ext hx4
  replace hb2 := hb2.ext hx4
  have hn4 : (H3.push (.row ((N + 1) * 2) [.int .i64 0, .int .i64 0] .lf true)).nx = H.nx + 4 := by simp [hn3]
  generalize (H3.push (.row ((N + 1) * 2) [.int .i64 0, .int .i64 0] .lf true)) = H4 at *
  rw [hn3] at hr0 ⊢
  repeat (first|refine pw_mvt rfl ?_|refine pw_mvc ?_|refine pw_p rfl rfl ?_|refine pw_nil ?_|refine ps_seq ?_|refine ps_ops0 mix ?_|refine ps_block ?_)
  rw [wrap_i64 (n := (N : Int) + 1) (by omega) (by omega)]
  refine ps_loop (fun m E H' => ∃ k : Nat, k + m = N + 1 /\ E = [(2, .one (.ptr H.nx 0)), (3, .one (.ptr (H.nx + 1) 0)), (5, .int N), (6, .one (.slc (H.nx + 3) 0 k (N + 1) 2 true)), (24, .int (N + 1)), (25, .int k)] /\ H.nx + 4 <= H'.nx /\ Row H' H.nx (ptC p) /\ Row H' (H.nx + 1) (ptC q) /\ PRoom H' (H.nx + 3) (N + 1) ((List.range k).map (lineK p q N))) (m := N + 1) ⟨_, (SubE.cons (k := 2) rfl (SubE.cons (k := 3) rfl (SubE.cons (k := 5) rfl (SubE.cons (k := 6) rfl (SubE.cons (k := 24) rfl (SubE.cons (k := 25) rfl (SubE.nil _))))))), 0, oM, rfl, oM, hb1, hb2, hr0⟩ ?_
  rintro m E H' hwf' ⟨k, hk, rfl, hnx, g1, g2, hP'⟩
  have c0 := g1.cell (i := 0) rfl
  have c1 := g1.cell (i := 1) rfl
  have d0 := g2.cell (i := 0) rfl
  have d1 := g2.cell (i := 1) rfl
  obtain ⟨p1, p2, p3, p4⟩ := hp
  obtain ⟨q1, q2, q3, q4⟩ := hq
  repeat (first|refine pw_p rfl rfl ?_|refine pw_nil ?_|refine ps_seq ?_|refine ps_ops0 mix ?_)
  refine ps_if rfl rfl (fun ht2 => ?_) (fun ht2 => ?_)
  ·simp at ht2
   repeat (first|refine pw_mvt rfl ?_|refine pw_nil ?_|refine ps_seq ?_|refine ps_ops0 mix ?_|refine ps_skip ?_|refine ps_block ?_)
   refine ps_ops mix ?_
   repeat (first|refine pw_mvt rfl ?_|refine pw_p rfl rfl ?_|refine pw_l1 rfl rfl aM ?_|refine pw_lk1 rfl rfl aM ?_)
   refine pw_cfp rfl rfl (between_ok oM oM oM oM oM oM oM oM) (by repeat (first|exact trivial|refine ⟨by assumption, ?_⟩)) ?_
   skip
   refine pw_cfp rfl rfl (between_ok oM oM oM oM oM oM oM oM) (by repeat (first|exact trivial|refine ⟨by assumption, ?_⟩)) ?_
   repeat (first|refine pw_p rfl rfl ?_)
   refine pw_b1i (cs := ptC (lineK p q N k)) rfl rfl rfl ?_
   have hkl : ((List.range k).map (lineK p q N)).length = k := by simp
   generalize hH5 : Hp.add (Hp.skip H' 19) (H'.nx + 16) (.row (ptC (lineK p q N k)).length (ptC (lineK p q N k)) .lf true) = H5
   have hold : ∀ b, b < H'.nx -> H5.get b = H'.get b := fun b hb => by rw [<- hH5, Hp.get_add_ne _ _ (by omega), Hp.get_skip]
   have hsrc : H5.loads (H'.nx + 16) 0 (1 * 2) = some (ptC (lineK p q N k)) := loads_row (cs := ptC (lineK p q N k)) (rw := true) (by rw [<- hH5, Hp.get_add_self])
   obtain ⟨H6, a1, a2, a3, a4⟩ := (hP'.same (hold (H.nx + 3) (by omega))).append (by rw [hkl]; omega) 16 true (lineK p q N k)
   rw [hkl] at a1
   refine pw_app rfl rfl rfl (src_row hsrc) a1 (watch_all (allCtx.mem ?_)) ?_
   ·refine ⟨?_, ?_, trivial⟩
    ·exact ((g2.same (hold _ oM)).same (a3 _ oM)).cell rfl
    ·exact ((g1.same (hold _ oM)).same (a3 _ oM)).cell rfl
   repeat (first|refine pw_mvt rfl ?_|refine pw_p rfl rfl ?_|refine pw_nil ?_|refine ps_ops0 mix ?_)
   have hn6 : H6.nx = H'.nx + 19 := by rw [a4, <- hH5]; simp
   refine ⟨m - 1, oM, _, (SubE.cons (k := 2) rfl (SubE.cons (k := 3) rfl (SubE.cons (k := 5) rfl (SubE.cons (k := 6) rfl (SubE.cons (k := 24) rfl (SubE.cons (k := 25) rfl (SubE.nil _))))))), k + 1, oM, ?_, oM, (g1.same (hold _ oM)).same (a3 _ oM), (g2.same (hold _ oM)).same (a3 _ oM), ?_⟩
   ·rw [wrap_i64 (by omega) (by omega)]; rfl
   ·rw [List.range_succ, List.map_append]; exact a2
  ·simp at ht2
   obtain rfl : k = N + 1 := by omega
   refine ps_exit ?_
   repeat (first|refine pw_mvt rfl ?_|refine pw_nil ?_|refine ps_seq ?_|refine ps_ops0 mix ?_)
   refine ps_ret ⟨_, rfl, ?_⟩
   rw [lineP, hn, if_neg ht, Int.toNat_natCast]
   have := hP'.full (lo := H.nx) (hi := H'.nx) (ex := true) (by simp) (by omega) (by omega)
   simpa using this
theorem line_ok {H : Hp} {p q : Pt} (hp : Small 1000 p) (hq : Small 1000 q) : ACalls Tryz.prog 0 99 [Go.Ab.ptV p, Go.Ab.ptV q] H fun v H' => POwn H' H.nx H'.nx (lineP p q) v /\ Ext H H' :=
 (ACalls.grow (line_ro hp hq)).mono fun v H' ⟨H1, hg, e1, e2, e3, e4, _⟩ => by
  subst e1
  exact ⟨hg.same fun b hb => e4 b (hg.2 b hb).1, e3, e2⟩
theorem d_line {p q : Pt2} (hp : Small 1000 p) (hq : Small 1000 q) : DK 99 [ptD p, ptD q] fun d => d = ptsD (lineP p q) := fun H Z args hw hz hg ha => by
 rw [exVL_ok (ds := [ptD p, ptD q]) (vs := [Go.Ab.ptV p, Go.Ab.ptV q]) ⟨rfl, rfl, trivial⟩ ha]
 refine (ACalls.none (ACalls.wf (line_ok hp hq))).mono ?_
 rintro v H' ⟨⟨⟨ho, hx⟩, hw'⟩, hno⟩
 refine ⟨hw', hx.nx, fun b hb => ?_, _, rd_of_own ho fun b h1 h2 => .inr ⟨h1, h2⟩, rfl⟩
 cases hgb : H.get b with
 | none => exact hno b hb hgb
 | some bk => exact hx.get b bk hgb
theorem d_rline {p q : Pt2} (hp : Small 1000 p) (hq : Small 1000 q) : DK 50 [ptD p, ptD q] fun d => d = ptsD (lineP p q) := fun H Z args hw hz hg ha => by
 rw [exVL_ok (ds := [ptD p, ptD q]) (vs := [Go.Ab.ptV p, Go.Ab.ptV q]) ⟨rfl, rfl, trivial⟩ ha]
 refine (ACalls.none (ACalls.wf (rline_ok hp hq))).mono ?_
 rintro v H' ⟨⟨⟨ho, hx⟩, hw'⟩, hno⟩
 refine ⟨hw', hx.nx, fun b hb => ?_, _, rd_of_own ho fun b h1 h2 => .inr ⟨h1, h2⟩, rfl⟩
 cases hgb : H.get b with
 | none => exact hno b hb hgb
 | some bk => exact hx.get b bk hgb
theorem shift_div (x t : Int) {n : Int} (hn : 0 < n) : (x + 2 * n * t) / (2 * n) = x / (2 * n) + t := Int.add_mul_ediv_left x t oM
theorem half_div (a : Int) {n : Int} (hn : 0 < n) : (2 * (a * n) + n) / (2 * n) = a := by
 have h := shift_div n a hn
 rw [show n + 2 * n * a = 2 * (a * n) + n by rw [Int.mul_assoc, Int.mul_comm n a]; omega] at h
 rw [h, Int.ediv_eq_zero_of_lt (by omega) (by omega)]
 omega
theorem betw_zero (a b : Int) {n : Int} (hn : 0 < n) : betw a b 0 n = a := by
 unfold betw
 rw [Int.zero_mul, Int.add_zero]
 exact half_div a hn
theorem betw_full (a b : Int) {n : Int} (hn : 0 < n) : betw a b n n = b := by
 unfold betw
 rw [show a * n + n * (b - a) = b * n by rw [Int.mul_sub, Int.mul_comm n b, Int.mul_comm n a]; omega]
 exact half_div b hn
theorem betw_move (a b c k : Int) {n : Int} (hn : 0 < n) : betw (a + c) (b + c) k n = betw a b k n + c := by
 unfold betw
 rw [<- shift_div _ c hn]
 congr 1
 rw [show b + c - (a + c) = b - a by omega, Int.add_mul, Int.mul_assoc, Int.mul_comm n c]
 omega
theorem betw_in (a b k : Int) {n : Int} (hn : 0 < n) (h0 : 0 <= k) (h1 : k <= n) : min a b <= betw a b k n /\ betw a b k n <= max a b := by
 have e := half_div (min a b) hn
 have f := half_div (max a b) hn
 have hx : min a b * n <= a * n + k * (b - a) /\ a * n + k * (b - a) <= max a b * n := by
  by_cases hab : a <= b
  ·rw [Int.min_eq_left hab, Int.max_eq_right hab]
   have g1 : 0 <= k * (b - a) := Int.mul_nonneg h0 oM
   have g2 : k * (b - a) <= n * (b - a) := Int.mul_le_mul_of_nonneg_right h1 oM
   rw [Int.mul_sub n, Int.mul_comm n b, Int.mul_comm n a] at g2
   omega
  ·rw [Int.min_eq_right (by omega), Int.max_eq_left (by omega)]
   have g1 : 0 <= k * (a - b) := Int.mul_nonneg h0 oM
   have g2 : k * (a - b) <= n * (a - b) := Int.mul_le_mul_of_nonneg_right h1 oM
   rw [Int.mul_sub n, Int.mul_comm n b, Int.mul_comm n a] at g2
   have g3 : k * (b - a) = - (k * (a - b)) := by rw [<- Int.mul_neg]; congr 1; omega
   omega
 unfold betw
 constructor
 ·have := Int.ediv_le_ediv (a := 2 * (min a b * n) + n) (b := 2 * (a * n + k * (b - a)) + n) (c := 2 * n) oM oM
  omega
 ·have := Int.ediv_le_ediv (a := 2 * (a * n + k * (b - a)) + n) (b := 2 * (max a b * n) + n) (c := 2 * n) oM oM
  omega
theorem lineP_len (p q : Pt2) : (lineP p q).length = (far p q).toNat + 1 := by
 unfold lineP
 split
 ·rename_i h; rw [h]; rfl
 ·simp
def lineAt (p q : Pt2) (k : Nat) : Pt2 := if far p q = 0 then p else lineK p q (far p q) k
theorem lineP_at (p q : Pt2) {k : Nat} (hk : (k : Int) <= far p q) : (lineP p q)[k]? = some (lineAt p q k) := by
 unfold lineP lineAt
 split
 ·rename_i h
  obtain rfl : k = 0 := by omega
  rfl
 ·rw [List.getElem?_map, List.getElem?_range (by omega)]; rfl
theorem far_abs (p q : Pt2) : far p q = max (q.1 - p.1) (max (p.1 - q.1) (max (q.2 - p.2) (p.2 - q.2))) := by simp only [far]; omega
theorem lineAt_zero (p q : Pt2) : lineAt p q 0 = p := by
 have := far_abs p q
 unfold lineAt
 split
 ·rfl
 ·simp only [lineK]
  rw [Int.natCast_zero, betw_zero _ _ (by omega), betw_zero _ _ (by omega)]
theorem lineAt_full (p q : Pt2) : lineAt p q (far p q).toNat = q := by
 have h := far_abs p q
 unfold lineAt
 split
 ·obtain ⟨p1, p2⟩ := p
  obtain ⟨q1, q2⟩ := q
  simp only [Prod.mk.injEq] at *
  omega
 ·simp only [lineK]
  rw [Int.toNat_of_nonneg (by omega), betw_full _ _ (by omega), betw_full _ _ (by omega)]
theorem lineAt_move (p q : Pt2) (c d : Int) (k : Nat) : lineAt (p.1 + c, p.2 + d) (q.1 + c, q.2 + d) k = ((lineAt p q k).1 + c, (lineAt p q k).2 + d) := by
 have h := far_abs p q
 have hc : far (p.1 + c, p.2 + d) (q.1 + c, q.2 + d) = far p q := by simp only [far]; omega
 unfold lineAt
 rw [hc]
 split
 ·rfl
 ·simp only [lineK]
  rw [betw_move _ _ _ _ (by omega), betw_move _ _ _ _ (by omega)]
theorem lineAt_in (p q : Pt2) {k : Nat} (hk : (k : Int) <= far p q) : min p.1 q.1 <= (lineAt p q k).1 /\ (lineAt p q k).1 <= max p.1 q.1 /\ min p.2 q.2 <= (lineAt p q k).2 /\ (lineAt p q k).2 <= max p.2 q.2 := by
 have h := far_abs p q
 unfold lineAt
 split
 ·omega
 ·simp only [lineK]
  have h1 := betw_in p.1 q.1 k (n := far p q) oM oM hk
  have h2 := betw_in p.2 q.2 k (n := far p q) oM oM hk
  omega
theorem x_sfunc {l : List Pt2} (hl : l.Nodup) (h0 : 0 < l.length) (hn : l.length < 1000000) : DKX 73 [.one (.fn 98 [(1, 0)]), fnK 75] [(0, mapB l), (1, .cells [.om 0])] 2
  fun d S' nk' => d = .one (.own 6 0 (sortedP l).length 2) /\ SubA [(6, .data ((sortedP l).flatMap ptF))] S' /\ nk' = 7 := by
 refine dxk_ok cp73 rfl fun Z β H lo => ?_
 repeat (first|refine dw_p rfl ?_|refine dw_nil ?_|refine ds_seq ?_|refine ds_ops mix (fun base => ?_))
 refine dw_cx rfl rfl rfl (DX.sub (x_coll hl hn _ _ _ _ _) (SubA.cons rfl (SubA.cons rfl (SubA.nil _)))) ?_
 rintro _ S' _ ⟨out, h1, h2, rfl, h3, h4, rfl⟩
 refine dw_keep (SubA.refl _) h4 ?_
 have hp : 0 < out.length := by
  cases out with
  | nil =>
   cases l with
   | nil => simp at h0
   | cons x l => exact absurd ((h2 x).2 (by simp)) (by simp)
  | cons => simp
 repeat (first|refine dw_p rfl ?_|refine dw_nil ?_|refine ds_seq ?_|refine ds_ops mix (fun base => ?_))
 refine dw_cx rfl rfl rfl (dx_sortK cmp75 (k := 6) (l := out) rfl hp oM _ _ _ _ _) ?_
 rintro _ _ _ ⟨rfl, rfl, l', hp', hs, rfl⟩
 have hl' : l'.Nodup := hp'.symm.nodup h1
 have he : l' = sortedP l := ByRows.ext (rows_of_sorted hs hl') (sortedP_rows l) fun p => by rw [sortedP_mem, hp'.mem_iff, h2]
 have hlen : out.length = (sortedP l).length := by rw [<- he, hp'.length_eq]
 rw [hlen, he]
 repeat (first|refine dw_p rfl ?_|refine dw_nil ?_|refine ds_seq ?_|refine ds_ops mix (fun base => ?_))
 exact ds_ret ⟨_, rfl, rfl, _, SubA.refl _, rfl, SubA.cons rfl (SubA.nil _), rfl⟩
theorem x_sorted {l : List Pt2} (hl : l.Nodup) (h0 : 0 < l.length) (hn : l.length < 1000000) : DKX 60 [.one (.om 0)] [(0, mapB l)] 1
  fun d S' nk' => d = .one (.own 6 0 (sortedP l).length 2) /\ SubA [(6, .data ((sortedP l).flatMap ptF))] S' /\ nk' = 7 := by
 refine dxk_ok cp60 rfl fun Z β H lo => ?_
 repeat (first|refine dw_p rfl ?_|refine dw_nil ?_|refine ds_seq ?_|refine ds_ops mix (fun base => ?_))
 refine dw_cx rfl rfl rfl (x_mkeys l _ _ _ _ _) ?_
 rintro _ S' _ ⟨rfl, h4, rfl⟩
 refine dw_keep (SubA.refl _) h4 ?_
 skip
 refine dw_cx rfl rfl rfl (x_sfunc hl h0 hn _ _ _ _ _) ?_
 rintro _ S' _ ⟨rfl, h4, rfl⟩
 refine dw_keep (SubA.refl _) h4 ?_
 repeat (first|refine dw_p rfl ?_|refine dw_nil ?_)
 exact ds_ret ⟨_, rfl, rfl, _, SubA.refl _, rfl, SubA.cons rfl (SubA.nil _), rfl⟩
def putL (l L : List Pt2) : List Pt2 := L.foldl putP l
theorem putL_mem {p : Pt2} : ∀ {L l : List Pt2}, p ∈ putL l L ↔ p ∈ l \/ p ∈ L
 | [], l => by simp [putL]
 | q :: L, l => by
  show p ∈ putL (putP l q) L ↔ _
  rw [putL_mem, putP_mem, List.mem_cons, or_assoc]
theorem putL_nodup : ∀ {L l : List Pt2}, l.Nodup -> (putL l L).Nodup
 | [], _, h => h
 | q :: L, _, h => putL_nodup (L := L) (putP_nodup h)
theorem putP_le (l : List Pt2) (p : Pt2) : l.length <= (putP l p).length /\ (putP l p).length <= l.length + 1 := by
 unfold putP
 split
 ·omega
 ·rw [List.length_append, List.length_singleton]; omega
theorem putL_le : ∀ (L l : List Pt2), l.length <= (putL l L).length /\ (putL l L).length <= l.length + L.length
 | [], l => by simp [putL]
 | q :: L, l => by
  have := putL_le L (putP l q)
  have := putP_le l q
  show _ <= (putL (putP l q) L).length /\ (putL (putP l q) L).length <= _
  rw [List.length_cons]
  omega
theorem putL_take {l L : List Pt2} {i : Nat} {p : Pt2} (h : L[i]? = some p) : putL l (L.take (i + 1)) = putP (putL l (L.take i)) p := by
 unfold putL
 rw [List.take_add_one, h, List.foldl_append]
 rfl
theorem lineP_len_le {p q : Pt2} (hp : Small 1000 p) (hq : Small 1000 q) : (lineP p q).length <= 2001 := by
 have h1 := lineP_len p q
 have h2 := far_abs p q
 unfold Small at hp hq
 omega
theorem x_add {l : List Pt2} {a b : Pt2} (ha : Small 1000 a) (hb : Small 1000 b) : DKX 78 [.one (.om 0), ptD a, ptD b] [(0, mapB l)] 1
  fun d S' nk' => d = .tup [] /\ SubA [(0, mapB (putL l (lineP a b)))] S' /\ nk' = 1 := by
 refine dxk_ok cp78 rfl fun Z β H lo => ?_
 have hln := lineP_len_le ha hb
 repeat (first|refine dw_l rfl ?_|refine dw_a rfl ?_|refine dw_nil ?_|refine ds_seq ?_|refine ds_ops mix (fun base => ?_))
 refine dw_cf rfl rfl (d_line ha hb) ?_
 rintro _ rfl
 repeat (first|refine dw_p rfl ?_|refine dw_nil ?_|refine ds_block ?_)
 refine ds_loop (fun m E S nk => ∃ i : Nat, i + m = (lineP a b).length /\ E = [(0, .one (.om 0)), (10, ptsD (lineP a b)), (11, .int (lineP a b).length), (12, .int i)] /\ S = [(0, mapB (putL l ((lineP a b).take i)))] /\ nk = 1)
  ⟨(lineP a b).length, _, _, _, [], ?wk, 0, oM, rfl, rfl, rfl⟩ ?_
 case wk => exact wkA
 rintro m E S nk ⟨i, hi, rfl, rfl, rfl⟩
 repeat (first|refine dw_p rfl ?_|refine dw_nil ?_|refine ds_seq ?_|refine ds_ops mix (fun base => ?_))
 refine ds_if rfl (fun ht => ?_) (fun ht => ?_)
 ·have ht : i < (lineP a b).length := by simpa using ht
  obtain ⟨q, hq⟩ : ∃ q, (lineP a b)[i]? = some q := ⟨_, List.getElem?_eq_getElem ht⟩
  have e1 := ptF_at hq
  repeat (first|refine dw_p rfl ?_|refine dw_l rfl ?_|refine dw_if rfl rfl oM (by decide) aM ?_|refine dw_a rfl ?_|refine dw_st rfl rfl rfl rfl rfl (Nat.le_of_ble_eq_true rfl) rfl ?_|refine dw_nil ?_|refine ds_seq ?_|refine ds_ops mix (fun base => ?_)|refine ds_skip ?_|refine ds_block ?_)
  refine dw_stupd rfl rfl rfl rfl (stUp_pt _ q) rfl ?_
  rw [<- putL_take hq]
  repeat (first|refine dw_p rfl ?_|refine dw_nil ?_|refine ds_ops mix (fun base => ?_))
  refine ⟨m - 1, oM, _, _, _, [], ?wk1, i + 1, oM, rfl, rfl, rfl⟩
  case wk1 => exact wkA
 ·have ht : i = (lineP a b).length := by have : ¬ i < (lineP a b).length := by simpa using ht
                                         omega
  subst ht
  rw [List.take_length]
  repeat (first|refine ds_exit ?_)
  exact ⟨_, rfl, rfl, _, SubA.refl _, rfl, SubA.cons rfl (SubA.nil _), rfl⟩
def Smalls3 (L : List Pt2) : Prop := ∀ p ∈ L, Small 1000 p
structure Along (L : List Pt2) (n : Nat) (l : List Pt2) : Prop where
 nd : l.Nodup
 le : l.length <= 2001 * n
 mem : ∀ p, p ∈ l ↔ ∃ (i : Nat) (a b : Pt2), i < n /\ L[i]? = some a /\ L[i + 1]? = some b /\ p ∈ lineP a b
theorem Along.zero (L : List Pt2) : Along L 0 [] := ⟨List.nodup_nil, by simp, fun p => by simp⟩
theorem Along.succ {L l : List Pt2} {n : Nat} {a b : Pt2} (h : Along L n l) (ha : L[n]? = some a) (hb : L[n + 1]? = some b) (hl : Smalls3 L) : Along L (n + 1) (putL l (lineP a b)) := by
 refine ⟨putL_nodup h.nd, ?_, fun p => ?_⟩
 ·have h1 := (putL_le (lineP a b) l).2
  have h2 := lineP_len_le (hl a (List.mem_of_getElem? ha)) (hl b (List.mem_of_getElem? hb))
  have h3 := h.le
  omega
 ·rw [putL_mem, h.mem]
  constructor
  ·rintro (⟨i, a', b', h1, h2, h3, h4⟩|h1)
   ·exact ⟨i, a', b', oM, h2, h3, h4⟩
   ·exact ⟨n, a, b, oM, ha, hb, h1⟩
  ·rintro ⟨i, a', b', h1, h2, h3, h4⟩
   by_cases hi : i = n
   ·subst hi
    rw [ha] at h2
    rw [hb] at h3
    obtain rfl := Option.some.inj h2
    obtain rfl := Option.some.inj h3
    exact .inr h4
   ·exact .inl ⟨i, a', b', oM, h2, h3, h4⟩
theorem do_along {L : List Pt2} (hl : Smalls3 L) (hn : L.length < 100) : DKO 61 [ptsD L] fun d S nk => ∃ l, Along L (L.length - 1) l /\ d = .one (.om 0) /\ S = [(0, mapB l)] /\ nk = 1 := by
 refine dfnO_ok cp61 rfl GHro fun Z0 lo => ?_
 repeat (first|refine dw_p rfl ?_|refine dw_nil ?_|refine ds_seq ?_|refine ds_ops mix (fun base => ?_))
 refine dw_mkst ?_
 repeat (first|refine dw_p rfl ?_|refine dw_nil ?_|refine ds_seq ?_|refine ds_ops mix (fun base => ?_)|refine ds_block ?_)
 refine ds_loop (fun m E S nk => ∃ (i : Nat) (l : List Pt2), i + m = L.length /\ (i = 0 \/ i < L.length) /\ Along L i l /\ E = [(0, ptsD L), (3, .one (.om 0)), (4, .int (i + 1 : Nat))] /\ S = [(0, mapB l)] /\ nk = 1)
  ⟨L.length, _, _, _, [], ?wk, 0, [], oM, .inl rfl, Along.zero L, rfl, rfl, rfl⟩ ?_
 case wk => exact wkA
 rintro m E S nk ⟨i, l, hi, hi0, hA, rfl, rfl, rfl⟩
 repeat (first|refine dw_p rfl ?_|refine dw_nil ?_|refine ds_seq ?_|refine ds_ops mix (fun base => ?_))
 refine ds_if rfl (fun ht => ?_) (fun ht => ?_)
 ·have ht : i + 1 < L.length := by have := of_decide_eq_true ht; omega
  obtain ⟨a, ha⟩ : ∃ q, L[i]? = some q := ⟨_, List.getElem?_eq_getElem oM⟩
  obtain ⟨b, hb⟩ : ∃ q, L[i + 1]? = some q := ⟨_, List.getElem?_eq_getElem ht⟩
  have e1 := ptF_at ha
  have e2 := ptF_at hb
  have hw : IntKind.i64.wrap (((i + 1 : Nat) : Int) - 1) = ((i : Nat) : Int) := by rw [dwrap (by omega) (by omega)]; omega
  repeat (first|refine dw_p rfl ?_|refine ds_seq ?_|refine ds_ops mix (fun base => ?_)|refine ds_skip ?_|refine ds_block ?_)
  rw [hw]
  repeat (first|refine dw_p rfl ?_|refine dw_l rfl ?_|refine dw_if rfl rfl oM (by decide) aM ?_)
  refine dw_cx rfl rfl rfl (x_add (hl a (List.mem_of_getElem? ha)) (hl b (List.mem_of_getElem? hb)) _ _ _ _ _) ?_
  rintro _ S' _ ⟨rfl, hS, rfl⟩
  refine dw_keep (SubA.refl _) hS ?_
  repeat (first|refine dw_p rfl ?_|refine dw_nil ?_|refine ds_ops mix (fun base => ?_))
  refine ⟨m - 1, oM, _, _, _, [], ?wk1, i + 1, _, oM, .inr oM, hA.succ ha hb hl, rfl, rfl, rfl⟩
  case wk1 => exact wkA
 ·have ht : L.length <= i + 1 := by have := of_decide_eq_false ht; omega
  obtain rfl : i = L.length - 1 := by omega
  repeat (first|refine dw_p rfl ?_|refine dw_nil ?_|refine ds_seq ?_|refine ds_ops mix (fun base => ?_)|refine ds_exit ?_)
  exact ds_ret ⟨_, rfl, rfl, _, SubA.refl _, l, hA, rfl, rfl, rfl⟩
def nxt (L : List Pt2) (i : Nat) : Nat := (i + 1) % L.length
structure Around (L : List Pt2) (l : List Pt2) : Prop where
 nd : l.Nodup
 le : l.length <= 2001 * L.length
 mem : ∀ p, p ∈ l ↔ ∃ (i : Nat) (a b : Pt2), L[i]? = some a /\ L[nxt L i]? = some b /\ p ∈ lineP a b
theorem Along.around {L l : List Pt2} {a b : Pt2} (h : Along L (L.length - 1) l) (hl : Smalls3 L) (h0 : 0 < L.length) (ha : L[L.length - 1]? = some a) (hb : L[0]? = some b) : Around L (putL l (lineP a b)) := by
 refine ⟨putL_nodup h.nd, ?_, fun p => ?_⟩
 ·have h1 := (putL_le (lineP a b) l).2
  have h2 := lineP_len_le (hl a (List.mem_of_getElem? ha)) (hl b (List.mem_of_getElem? hb))
  have h3 := h.le
  omega
 ·rw [putL_mem, h.mem]
  constructor
  ·rintro (⟨i, a', b', h1, h2, h3, h4⟩|h1)
   ·exact ⟨i, a', b', h2, by rw [nxt, Nat.mod_eq_of_lt (by omega)]; exact h3, h4⟩
   ·exact ⟨L.length - 1, a, b, ha, by rw [nxt, show L.length - 1 + 1 = L.length by omega, Nat.mod_self]; exact hb, h1⟩
  ·rintro ⟨i, a', b', h2, h3, h4⟩
   have hi := (List.getElem?_eq_some_iff.1 h2).1
   by_cases hx : i = L.length - 1
   ·subst hx
    rw [ha] at h2
    rw [nxt, show L.length - 1 + 1 = L.length by omega, Nat.mod_self, hb] at h3
    obtain rfl := Option.some.inj h2
    obtain rfl := Option.some.inj h3
    exact .inr h4
   ·rw [nxt, Nat.mod_eq_of_lt (by omega)] at h3
    exact .inl ⟨i, a', b', oM, h2, h3, h4⟩
theorem do_around {L : List Pt2} (hl : Smalls3 L) (h0 : 0 < L.length) (hn : L.length < 100) : DKO 62 [ptsD L] fun d S nk => ∃ l, Around L l /\ d = .one (.om 0) /\ S = [(0, mapB l)] /\ nk = 1 := by
 refine dfnO_ok cp62 rfl GHro fun Z0 lo => ?_
 obtain ⟨a, ha⟩ : ∃ q, L[L.length - 1]? = some q := ⟨_, List.getElem?_eq_getElem oM⟩
 obtain ⟨b, hb⟩ : ∃ q, L[0]? = some q := ⟨_, List.getElem?_eq_getElem oM⟩
 have e1 := ptF_at ha
 have e2 := ptF_at hb
 have hw : IntKind.i64.wrap ((L.length : Int) - 1) = ((L.length - 1 : Nat) : Int) := by rw [dwrap (by omega) (by omega)]; omega
 repeat (first|refine dw_p rfl ?_|refine dw_nil ?_|refine ds_seq ?_|refine ds_ops mix (fun base => ?_))
 refine dw_cfr rfl rfl (do_along hl hn) ?_
 rintro _ _ _ ⟨l, hA, rfl, rfl, rfl⟩
 refine dw_keep (S0 := [(0, mapB l)]) (SubA.refl _) (SubA.cons rfl (SubA.nil _)) ?_
 repeat (first|refine dw_p rfl ?_|refine dw_nil ?_|refine ds_seq ?_|refine ds_ops mix (fun base => ?_))
 refine ds_if rfl (fun _ => ?_) (fun ht => ?_)
 ·repeat (first|refine dw_p rfl ?_|refine ds_ops mix (fun base => ?_))
  rw [hw]
  repeat (first|refine dw_p rfl ?_|refine dw_l rfl ?_|refine dw_if0 rfl rfl oM (by decide) aM ?_|refine dw_if rfl rfl oM (by decide) aM ?_)
  refine dw_cx rfl rfl rfl (x_add (hl a (List.mem_of_getElem? ha)) (hl b (List.mem_of_getElem? hb)) _ _ _ _ _) ?_
  rintro _ S' _ ⟨rfl, hS, rfl⟩
  refine dw_keep (SubA.refl _) hS ?_
  repeat (first|refine dw_p rfl ?_|refine dw_nil ?_|refine ds_seq ?_|refine ds_ops mix (fun base => ?_))
  exact ds_ret ⟨_, rfl, rfl, _, SubA.refl _, _, hA.around hl h0 ha hb, rfl, rfl, rfl⟩
 ·have := of_decide_eq_false ht
  omega
def crs (a b p : Pt2) : Int := (b.1 - a.1) * (p.2 - a.2) - (b.2 - a.2) * (p.1 - a.1)
def onP (a b p : Pt2) : Bool := decide (crs a b p = 0) && (decide (min a.1 b.1 <= p.1) && decide (p.1 <= max a.1 b.1) && decide (min a.2 b.2 <= p.2) && decide (p.2 <= max a.2 b.2))
def pasP (a b p : Pt2) : Bool := if decide (a.2 <= p.2) = decide (b.2 <= p.2) then false else if a.2 < b.2 then decide ((p.1 - a.1) * (b.2 - a.2) < (p.2 - a.2) * (b.1 - a.1)) else decide ((p.2 - a.2) * (b.1 - a.1) < (p.1 - a.1) * (b.2 - a.2))
theorem small_sub {p q : Pt2} (hp : Small 1000 p) (hq : Small 1000 q) : (-2000 <= p.1 - q.1 /\ p.1 - q.1 <= 2000) /\ (-2000 <= p.2 - q.2 /\ p.2 - q.2 <= 2000) := by
 unfold Small at hp hq; omega
theorem mulw {a b : Int} (ha : -2000 <= a /\ a <= 2000) (hb : -2000 <= b /\ b <= 2000) : IntKind.i64.wrap (IntKind.i64.wrap a * IntKind.i64.wrap b) = a * b := by
 rw [dwrap (n := a) (by omega) (by omega), dwrap (n := b) (by omega) (by omega)]
 have := mul_bd (A := 2000) (B := 2000) ha.1 ha.2 hb.1 hb.2
 exact dwrap oM oM
theorem crs_same {a b : Pt2} : onP a b a = true /\ onP a b b = true := by
 have e1 : (b.1 - a.1) * (b.2 - a.2) - (b.2 - a.2) * (b.1 - a.1) = 0 := by rw [Int.mul_comm]; omega
 constructor
 ·simp [onP, crs]; omega
 ·simp [onP, crs, e1]; omega
theorem bne_false' {a b : Int} (h : (a != b) = false) : a = b := by simpa using h
theorem bne_true' {a b : Int} (h : (a != b) = true) : a ≠ b := by simpa using h
theorem ifs4 : ∀ x y z w : Bool, (x && y && z && w) = (if (if (if x = true then y else false) = true then z else false) = true then w else false) := by decide
theorem ifs5 : ∀ v x y z w : Bool, (v && (x && y && z && w)) = (if (if (if (if v = true then x else false) = true then y else false) = true then z else false) = true then w else false) := by decide
theorem d_on {a b p : Pt2} (ha : Small 1000 a) (hb : Small 1000 b) (hp : Small 1000 p) : DK 83 [ptD a, ptD b, ptD p] fun d => d = .bool (onP a b p) := by
 refine dfn_ok cp83 rfl GHro fun Z0 lo => ?_
 have w1 := mulw (small_sub hb ha).1 (small_sub hp ha).2
 have w2 := mulw (small_sub hb ha).2 (small_sub hp ha).1
 by_cases h1 : p = a
 ·repeat (first|refine dw_p rfl ?_|refine dw_l rfl ?_|refine dw_a rfl ?_|refine dw_nil ?_|refine ds_seq ?_|refine ds_ops mix (fun base => ?_))
  refine dw_pB (d_eqpt (p := p) (q := a) rfl rfl) (b := true) (by simpa using h1) ?_
  repeat (first|refine dw_skip rfl rfl ?_|refine dw_pickT rfl rfl ?_|refine dw_p rfl ?_|refine dw_nil ?_)
  refine ds_if rfl (fun _ => ?_) (fun ht => by cases ht)
  repeat (first|refine dw_p rfl ?_|refine dw_nil ?_|refine ds_seq ?_|refine ds_ops mix (fun base => ?_))
  exact ds_ret ⟨_, rfl, rfl, by rw [h1, crs_same.1]⟩
 ·by_cases h2 : p = b
  ·repeat (first|refine dw_p rfl ?_|refine dw_l rfl ?_|refine dw_a rfl ?_|refine dw_nil ?_|refine ds_seq ?_|refine ds_ops mix (fun base => ?_))
   refine dw_pB (d_eqpt (p := p) (q := a) rfl rfl) (b := false) (by simpa using h1) ?_
   repeat (first|refine dw_want rfl rfl ?_|refine dw_p rfl ?_|refine dw_l rfl ?_)
   refine dw_pB (d_eqpt (p := p) (q := b) rfl rfl) (b := true) (by simpa using h2) ?_
   repeat (first|refine dw_pickF rfl rfl ?_|refine dw_nil ?_)
   refine ds_if rfl (fun _ => ?_) (fun ht => by cases ht)
   repeat (first|refine dw_p rfl ?_|refine dw_nil ?_|refine ds_seq ?_|refine ds_ops mix (fun base => ?_))
   exact ds_ret ⟨_, rfl, rfl, by rw [h2, crs_same.2]⟩
  ·repeat (first|refine dw_p rfl ?_|refine dw_l rfl ?_|refine dw_a rfl ?_|refine dw_nil ?_|refine ds_seq ?_|refine ds_ops mix (fun base => ?_))
   refine dw_pB (d_eqpt (p := p) (q := a) rfl rfl) (b := false) (by simpa using h1) ?_
   repeat (first|refine dw_want rfl rfl ?_|refine dw_p rfl ?_|refine dw_l rfl ?_)
   refine dw_pB (d_eqpt (p := p) (q := b) rfl rfl) (b := false) (by simpa using h2) ?_
   repeat (first|refine dw_pickF rfl rfl ?_|refine dw_nil ?_)
   refine ds_if rfl (fun ht => by cases ht) (fun _ => ?_)
   repeat (first|refine dw_p rfl ?_|refine dw_l rfl ?_|refine dw_nil ?_|refine ds_seq ?_|refine ds_ops mix (fun base => ?_)|refine ds_skip ?_)
   refine ds_if rfl (fun ht => ?_) (fun ht => ?_)
   ·have ht := bne_true' ht
    rw [w1, w2] at ht
    repeat (first|refine dw_p rfl ?_|refine dw_nil ?_|refine ds_seq ?_|refine ds_ops mix (fun base => ?_))
    exact ds_ret ⟨_, rfl, rfl, by rw [onP, decide_eq_false (by unfold crs; omega), Bool.false_and]⟩
   ·have ht := bne_false' ht
    rw [w1, w2] at ht
    have e0 : crs a b p = 0 := by unfold crs; omega
    repeat (first|refine dw_pick rfl dgA dgA ?_|refine dw_min rfl rfl ?_|refine dw_p rfl ?_|refine dw_l rfl ?_|refine dw_pg rfl dgA ?_|refine dw_lg rfl dgA ?_|refine dw_nil ?_|refine ds_seq ?_|refine ds_ops mix (fun base => ?_)|refine ds_skip ?_)
    refine ds_ret ⟨_, rfl, rfl, ?_⟩
    rw [onP, decide_eq_true e0, Bool.true_and]
    refine congrArg DV.bool ?_
    simp only [Bool.false_eq_true, if_false, if_true]
    rw [show (if b.1 > a.1 then b.1 else a.1) = max a.1 b.1 by omega, show (if b.2 > a.2 then b.2 else a.2) = max a.2 b.2 by omega, show (if b.2 < a.2 then b.2 else a.2) = min a.2 b.2 by omega]
    exact (ifs4 _ _ _ _).symm
theorem d_turn {a b p : Pt2} (ha : Small 1000 a) (hb : Small 1000 b) (hp : Small 1000 p) : DK 68 [ptD a, ptD b, ptD p] fun d => d = .int (crs a b p) := by
 refine dfn_ok cp68 rfl GHro fun Z0 lo => ?_
 have w1 := mulw (small_sub hb ha).1 (small_sub hp ha).2
 have w2 := mulw (small_sub hb ha).2 (small_sub hp ha).1
 have b1 := mul_bd (A := 2000) (B := 2000) (small_sub hb ha).1.1 (small_sub hb ha).1.2 (small_sub hp ha).2.1 (small_sub hp ha).2.2
 have b2 := mul_bd (A := 2000) (B := 2000) (small_sub hb ha).2.1 (small_sub hb ha).2.2 (small_sub hp ha).1.1 (small_sub hp ha).1.2
 repeat (first|refine dw_p rfl ?_|refine dw_l rfl ?_|refine dw_a rfl ?_|refine dw_nil ?_|refine ds_seq ?_|refine ds_ops mix (fun base => ?_))
 refine ds_ret ⟨_, rfl, rfl, ?_⟩
 refine congrArg DV.int ?_
 rw [w1, w2]
 exact dwrap oM oM
theorem d_ron {a b p : Pt2} (ha : Small 1000 a) (hb : Small 1000 b) (hp : Small 1000 p) : DK 51 [ptD a, ptD b, ptD p] fun d => d = .bool (onP a b p) := by
 refine dfn_ok cp51 rfl GHro fun Z0 lo => ?_
 repeat (first|refine dw_p rfl ?_|refine dw_l rfl ?_|refine dw_a rfl ?_|refine dw_nil ?_|refine ds_seq ?_|refine ds_ops mix (fun base => ?_))
 refine dw_cf rfl rfl (d_turn ha hb hp) ?_
 rintro _ rfl
 repeat (first|refine dw_pick rfl dgA dgA ?_|refine dw_p rfl ?_|refine dw_pg rfl dgA ?_|refine dw_lg rfl dgA ?_|refine dw_nil ?_)
 refine ds_ret ⟨_, rfl, rfl, ?_⟩
 refine congrArg DV.bool ?_
 simp only [Bool.false_eq_true, if_false, if_true]
 rw [show (if b.1 > a.1 then b.1 else a.1) = max a.1 b.1 by omega, show (if b.1 < a.1 then b.1 else a.1) = min a.1 b.1 by omega, show (if b.2 > a.2 then b.2 else a.2) = max a.2 b.2 by omega, show (if b.2 < a.2 then b.2 else a.2) = min a.2 b.2 by omega, show (crs a b p == 0) = decide (crs a b p = 0) from rfl]
 exact (ifs5 _ _ _ _ _).symm
theorem d_pas {a b p : Pt2} (ha : Small 1000 a) (hb : Small 1000 b) (hp : Small 1000 p) : DK 84 [ptD a, ptD b, ptD p] fun d => d = .bool (pasP a b p) := by
 refine dfn_ok cp84 rfl GHro fun Z0 lo => ?_
 have w1 := mulw (small_sub hp ha).2 (small_sub hb ha).1
 have w2 := mulw (small_sub hp ha).1 (small_sub hb ha).2
 repeat (first|refine dw_p rfl ?_|refine dw_l rfl ?_|refine dw_a rfl ?_|refine dw_nil ?_|refine ds_seq ?_|refine ds_ops mix (fun base => ?_))
 refine ds_if rfl (fun ht => ?_) (fun ht => ?_)
 ·repeat (first|refine dw_p rfl ?_|refine dw_nil ?_|refine ds_seq ?_|refine ds_ops mix (fun base => ?_))
  refine ds_ret ⟨_, rfl, rfl, ?_⟩
  rw [pasP, if_pos (by simpa using ht)]
 ·repeat (first|refine dw_p rfl ?_|refine dw_l rfl ?_|refine dw_nil ?_|refine ds_seq ?_|refine ds_ops mix (fun base => ?_)|refine ds_skip ?_)
  refine ds_if rfl (fun h2 => ?_) (fun h2 => ?_)
  ·repeat (first|refine dw_p rfl ?_|refine dw_nil ?_|refine ds_seq ?_|refine ds_ops mix (fun base => ?_))
   refine ds_ret ⟨_, rfl, rfl, ?_⟩
   have h2 := of_decide_eq_true h2
   rw [pasP, if_neg (by simpa using ht), if_pos (by omega), <- w1, <- w2]
  ·repeat (first|refine dw_p rfl ?_|refine dw_nil ?_|refine ds_seq ?_|refine ds_ops mix (fun base => ?_)|refine ds_skip ?_)
   refine ds_ret ⟨_, rfl, rfl, ?_⟩
   have h2 := of_decide_eq_false h2
   rw [pasP, if_neg (by simpa using ht), if_neg (by omega), <- w1, <- w2]
theorem d_rpas {a b p : Pt2} (ha : Small 1000 a) (hb : Small 1000 b) (hp : Small 1000 p) : DK 52 [ptD a, ptD b, ptD p] fun d => d = .bool (pasP a b p) := by
 refine dfn_ok cp52 rfl GHro fun Z0 lo => ?_
 have w1 := mulw (small_sub hp ha).2 (small_sub hb ha).1
 have w2 := mulw (small_sub hp ha).1 (small_sub hb ha).2
 repeat (first|refine dw_p rfl ?_|refine dw_l rfl ?_|refine dw_a rfl ?_|refine dw_nil ?_|refine ds_seq ?_|refine ds_ops mix (fun base => ?_))
 refine ds_if rfl (fun ht => ?_) (fun ht => ?_)
 ·repeat (first|refine dw_p rfl ?_|refine dw_nil ?_|refine ds_seq ?_|refine ds_ops mix (fun base => ?_))
  refine ds_ret ⟨_, rfl, rfl, ?_⟩
  rw [pasP, if_pos (by simpa using ht)]
 ·repeat (first|refine dw_p rfl ?_|refine dw_l rfl ?_|refine dw_nil ?_|refine ds_seq ?_|refine ds_ops mix (fun base => ?_)|refine ds_skip ?_)
  refine ds_if rfl (fun h2 => ?_) (fun h2 => ?_)
  ·repeat (first|refine dw_p rfl ?_|refine dw_nil ?_|refine ds_seq ?_|refine ds_ops mix (fun base => ?_))
   refine ds_ret ⟨_, rfl, rfl, ?_⟩
   have h2 := of_decide_eq_true h2
   rw [pasP, if_neg (by simpa using ht), if_pos (by omega), <- w1, <- w2]
  ·repeat (first|refine dw_p rfl ?_|refine dw_nil ?_|refine ds_seq ?_|refine ds_ops mix (fun base => ?_)|refine ds_skip ?_)
   refine ds_ret ⟨_, rfl, rfl, ?_⟩
   have h2 := of_decide_eq_false h2
   rw [pasP, if_neg (by simpa using ht), if_neg (by omega), <- w1, <- w2]
def at0 (L : List Pt2) (i : Nat) : Pt2 := (L[i]?).getD (0, 0)
def sOn (L : List Pt2) (p : Pt2) (i : Nat) : Bool := onP (at0 L i) (at0 L (nxt L i)) p
def sPas (L : List Pt2) (p : Pt2) (i : Nat) : Bool := pasP (at0 L i) (at0 L (nxt L i)) p
def odds (L : List Pt2) (p : Pt2) : Nat -> Bool
 | 0 => false
 | n + 1 => xor (odds L p n) (sPas L p n)
def inP (L : List Pt2) (p : Pt2) : Bool := (List.range L.length).any (sOn L p) || odds L p L.length
theorem at0_of {L : List Pt2} {i : Nat} {a : Pt2} (h : L[i]? = some a) : at0 L i = a := by rw [at0, h]; rfl
theorem inP_true {L : List Pt2} {p : Pt2} {i : Nat} (hi : i < L.length) (h : sOn L p i = true) : inP L p = true := by
 rw [inP, List.any_eq_true.2 ⟨i, List.mem_range.2 hi, h⟩, Bool.true_or]
theorem inP_end {L : List Pt2} {p : Pt2} (h : ∀ i, i < L.length -> sOn L p i = false) : inP L p = odds L p L.length := by
 have : (List.range L.length).any (sOn L p) = false := by
  rw [List.any_eq_false]
  intro i hi
  rw [h i (List.mem_range.1 hi)]
  decide
 rw [inP, this, Bool.false_or]
theorem nxt_rem {L : List Pt2} {i : Nat} (_ : i < L.length) : Int.tmod ((i : Int) + 1) (L.length : Int) = ((nxt L i : Nat) : Int) := by
 rw [Int.tmod_eq_emod_of_nonneg (by omega)]
 simp [nxt]
theorem d_inside {L : List Pt2} {p : Pt2} (hl : Smalls3 L) (hp : Small 1000 p) (hn : L.length < 100) : DK 64 [ptsD L, ptD p] fun d => d = .bool (inP L p) := by
 refine dfn_ok cp64 rfl GHro fun Z0 lo => ?_
 repeat (first|refine dw_p rfl ?_|refine dw_a rfl ?_|refine dw_nil ?_|refine ds_seq ?_|refine ds_ops mix (fun base => ?_)|refine ds_block ?_)
 refine ds_loop (fun m E S nk => ∃ i : Nat, i + m = L.length /\ (∀ j, j < i -> sOn L p j = false) /\ E = [(0, ptsD L), (3, .one (.ptr 0 0)), (5, .bool (odds L p i)), (9, ptsD L), (10, .int L.length), (11, .int i)] /\ S = [(0, .cells [.f (.c (.int .i64 p.1)), .f (.c (.int .i64 p.2))])] /\ nk = 1)
  ⟨L.length, _, _, _, [], ?wk, 0, oM, fun j hj => oM, rfl, rfl, rfl⟩ ?_
 case wk => exact wkA
 rintro m E S nk ⟨i, hi, hno, rfl, rfl, rfl⟩
 repeat (first|refine dw_p rfl ?_|refine dw_nil ?_|refine ds_seq ?_|refine ds_ops mix (fun base => ?_))
 refine ds_if rfl (fun ht => ?_) (fun ht => ?_)
 ·have ht : i < L.length := by have := of_decide_eq_true ht; omega
  have hnx : nxt L i < L.length := Nat.mod_lt _ oM
  obtain ⟨a, ha⟩ : ∃ q, L[i]? = some q := ⟨_, List.getElem?_eq_getElem ht⟩
  obtain ⟨b, hb⟩ : ∃ q, L[nxt L i]? = some q := ⟨_, List.getElem?_eq_getElem hnx⟩
  have e1 := ptF_at ha
  have e2 := ptF_at hb
  have hsa := hl a (List.mem_of_getElem? ha)
  have hsb := hl b (List.mem_of_getElem? hb)
  have hw : IntKind.i64.wrap ((i : Int) + 1) = (i : Int) + 1 := dwrap oM oM
  repeat (first|refine dw_p rfl ?_|refine dw_l rfl ?_|refine dw_if rfl rfl oM (by decide) aM ?_|refine dw_a rfl ?_|refine dw_st rfl rfl rfl rfl rfl (Nat.le_of_ble_eq_true rfl) rfl ?_|refine dw_nil ?_|refine ds_seq ?_|refine ds_ops mix (fun base => ?_)|refine ds_skip ?_|refine ds_block ?_)
  rw [hw]
  refine dw_rem rfl rfl oM ?_
  rw [nxt_rem ht]
  repeat (first|refine dw_l rfl ?_|refine dw_if rfl rfl oM (by decide) aM ?_|refine dw_a rfl ?_|refine dw_st rfl rfl rfl rfl rfl (Nat.le_of_ble_eq_true rfl) rfl ?_|refine dw_nil ?_|refine ds_seq ?_|refine ds_ops mix (fun base => ?_))
  refine dw_cf rfl rfl (d_on hsa hsb hp) ?_
  rintro _ rfl
  repeat (first|refine dw_nil ?_)
  refine ds_if rfl (fun ho => ?_) (fun ho => ?_)
  ·repeat (first|refine dw_p rfl ?_|refine dw_nil ?_|refine ds_seq ?_|refine ds_ops mix (fun base => ?_))
   refine ds_ret ⟨_, rfl, rfl, ?_⟩
   rw [inP_true ht (by rw [sOn, at0_of ha, at0_of hb]; exact ho)]
  ·have ho : sOn L p i = false := by rw [sOn, at0_of ha, at0_of hb]; exact ho
   repeat (first|refine dw_l rfl ?_|refine ds_seq ?_|refine ds_ops mix (fun base => ?_)|refine ds_skip ?_)
   refine dw_cf rfl rfl (d_pas hsa hsb hp) ?_
   rintro _ rfl
   repeat (first|refine dw_nil ?_)
   refine ds_if rfl (fun hq => ?_) (fun hq => ?_)
   ·repeat (first|refine dw_p rfl ?_|refine dw_nil ?_|refine ds_ops mix (fun base => ?_))
    refine ⟨m - 1, oM, _, _, _, [], ?wk1, i + 1, oM, ?hno, rfl, rfl, rfl⟩
    case hno =>
     intro j hj
     by_cases hji : j = i
     ·rw [hji, ho]
     ·exact hno j oM
    case wk1 =>
     have : (!odds L p i) = odds L p (i + 1) := by rw [odds, sPas, at0_of ha, at0_of hb, hq]; cases odds L p i <;> rfl
     rw [this]
     exact wkA
   ·have : odds L p (i + 1) = odds L p i := by rw [odds, sPas, at0_of ha, at0_of hb, hq]; cases odds L p i <;> rfl
    repeat (first|refine dw_p rfl ?_|refine dw_nil ?_|refine ds_ops mix (fun base => ?_)|refine ds_skip ?_)
    refine ⟨m - 1, oM, _, _, _, [], ?wk2, i + 1, oM, ?hno2, rfl, rfl, rfl⟩
    case hno2 =>
     intro j hj
     by_cases hji : j = i
     ·rw [hji, ho]
     ·exact hno j oM
    case wk2 =>
     rw [this]
     exact wkA
 ·have ht : i = L.length := by have := of_decide_eq_false ht; omega
  subst ht
  repeat (first|refine dw_p rfl ?_|refine dw_nil ?_|refine ds_seq ?_|refine ds_ops mix (fun base => ?_)|refine ds_exit ?_)
  refine ds_ret ⟨_, rfl, rfl, ?_⟩
  rw [inP_end hno]
theorem d_side {L : List Pt2} {i : Nat} {a b : Pt2} (hn : L.length < 100) (ht : i < L.length) (ha : L[i]? = some a) (hb : L[nxt L i]? = some b) : DK 49 [ptsD L, .int i] fun d => d = .tup [ptD a, ptD b] := by
 refine dfn_ok cp49 rfl GHro fun Z0 lo => ?_
 have hnx : nxt L i < L.length := Nat.mod_lt _ oM
 have e1 := ptF_at ha
 have e2 := ptF_at hb
 have hw : IntKind.i64.wrap ((i : Int) + 1) = (i : Int) + 1 := dwrap oM oM
 repeat (first|refine dw_p rfl ?_|refine dw_l rfl ?_|refine dw_if rfl rfl oM (by decide) aM ?_|refine dw_a rfl ?_|refine dw_nil ?_|refine ds_seq ?_|refine ds_ops mix (fun base => ?_))
 rw [hw]
 refine dw_rem rfl rfl oM ?_
 rw [nxt_rem ht]
 repeat (first|refine dw_lk rfl ?_|refine dw_if rfl rfl oM (by decide) aM ?_|refine dw_st rfl rfl rfl rfl rfl (Nat.le_of_ble_eq_true rfl) rfl ?_|refine dw_nil ?_)
 exact ds_ret ⟨_, rfl, rfl, rfl⟩
theorem d_rinside {L : List Pt2} {p : Pt2} (hl : Smalls3 L) (hp : Small 1000 p) (hn : L.length < 100) : DK 40 [ptsD L, ptD p] fun d => d = .bool (inP L p) := by
 refine dfn_ok cp40 rfl GHro fun Z0 lo => ?_
 repeat (first|refine dw_p rfl ?_|refine dw_a rfl ?_|refine dw_nil ?_|refine ds_seq ?_|refine ds_ops mix (fun base => ?_)|refine ds_block ?_)
 refine ds_loop (fun m E S nk => ∃ i : Nat, i + m = L.length /\ (∀ j, j < i -> sOn L p j = false) /\ E = [(0, ptsD L), (3, .one (.ptr 0 0)), (5, .bool (odds L p i)), (6, .int i)] /\ S = [(0, .cells [.f (.c (.int .i64 p.1)), .f (.c (.int .i64 p.2))])] /\ nk = 1)
  ⟨L.length, _, _, _, [], ?wk, 0, oM, fun j hj => oM, rfl, rfl, rfl⟩ ?_
 case wk => exact wkA
 rintro m E S nk ⟨i, hi, hno, rfl, rfl, rfl⟩
 repeat (first|refine dw_p rfl ?_|refine dw_nil ?_|refine ds_seq ?_|refine ds_ops mix (fun base => ?_))
 refine ds_if rfl (fun ht => ?_) (fun ht => ?_)
 ·have ht : i < L.length := by have := of_decide_eq_true ht; omega
  have hnx : nxt L i < L.length := Nat.mod_lt _ oM
  obtain ⟨a, ha⟩ : ∃ q, L[i]? = some q := ⟨_, List.getElem?_eq_getElem ht⟩
  obtain ⟨b, hb⟩ : ∃ q, L[nxt L i]? = some q := ⟨_, List.getElem?_eq_getElem hnx⟩
  have hsa := hl a (List.mem_of_getElem? ha)
  have hsb := hl b (List.mem_of_getElem? hb)
  repeat (first|refine dw_p rfl ?_|refine ds_seq ?_|refine ds_ops mix (fun base => ?_)|refine ds_skip ?_|refine ds_block ?_)
  refine dw_cf rfl rfl (d_side hn ht ha hb) ?_
  rintro _ rfl
  repeat (first|refine dw_p rfl ?_|refine dw_l rfl ?_|refine dw_a rfl ?_|refine dw_st rfl rfl rfl rfl rfl (Nat.le_of_ble_eq_true rfl) rfl ?_|refine dw_nil ?_|refine ds_seq ?_|refine ds_ops mix (fun base => ?_))
  refine dw_cf rfl rfl (d_ron hsa hsb hp) ?_
  rintro _ rfl
  repeat (first|refine dw_nil ?_)
  refine ds_if rfl (fun ho => ?_) (fun ho => ?_)
  ·repeat (first|refine dw_p rfl ?_|refine dw_nil ?_|refine ds_seq ?_|refine ds_ops mix (fun base => ?_))
   refine ds_ret ⟨_, rfl, rfl, ?_⟩
   rw [inP_true ht (by rw [sOn, at0_of ha, at0_of hb]; exact ho)]
  ·have ho : sOn L p i = false := by rw [sOn, at0_of ha, at0_of hb]; exact ho
   repeat (first|refine dw_l rfl ?_|refine ds_seq ?_|refine ds_ops mix (fun base => ?_)|refine ds_skip ?_)
   refine dw_cf rfl rfl (d_rpas hsa hsb hp) ?_
   rintro _ rfl
   repeat (first|refine dw_nil ?_)
   refine ds_if rfl (fun hq => ?_) (fun hq => ?_)
   ·repeat (first|refine dw_p rfl ?_|refine dw_nil ?_|refine ds_ops mix (fun base => ?_))
    refine ⟨m - 1, oM, _, _, _, [], ?wk1, i + 1, oM, ?hno, rfl, rfl, rfl⟩
    case hno =>
     intro j hj
     by_cases hji : j = i
     ·rw [hji, ho]
     ·exact hno j oM
    case wk1 =>
     have : (!odds L p i) = odds L p (i + 1) := by rw [odds, sPas, at0_of ha, at0_of hb, hq]; cases odds L p i <;> rfl
     rw [this]
     exact wkA
   ·have : odds L p (i + 1) = odds L p i := by rw [odds, sPas, at0_of ha, at0_of hb, hq]; cases odds L p i <;> rfl
    repeat (first|refine dw_p rfl ?_|refine dw_nil ?_|refine ds_ops mix (fun base => ?_)|refine ds_skip ?_)
    refine ⟨m - 1, oM, _, _, _, [], ?wk2, i + 1, oM, ?hno2, rfl, rfl, rfl⟩
    case hno2 =>
     intro j hj
     by_cases hji : j = i
     ·rw [hji, ho]
     ·exact hno j oM
    case wk2 =>
     rw [this]
     exact wkA
 ·have ht : i = L.length := by have := of_decide_eq_false ht; omega
  subst ht
  repeat (first|refine dw_p rfl ?_|refine dw_nil ?_|refine ds_seq ?_|refine ds_ops mix (fun base => ?_)|refine ds_exit ?_)
  refine ds_ret ⟨_, rfl, rfl, ?_⟩
  rw [inP_end hno]
def texP (k : Int) (p : Pt2) : Bool := decide (k = 3) || (decide (k = 2) && decide (p.2.tmod 2 = 0)) || (decide (k = 1) && decide ((p.1 + p.2).tmod 2 = 0))
theorem d_rtex {k : Nat} {p : Pt2} (hk : k < 4) (hp : Small 1000 p) : DK 39 [.int k, ptD p] fun d => d = .bool (texP k p) := by
 refine dfn_ok cp39 rfl GHro fun Z0 lo => ?_
 have hw : IntKind.i64.wrap (p.1 + p.2) = p.1 + p.2 := by unfold Small at hp; exact dwrap oM oM
 match k, hk with
 | 0, _ =>
  repeat (first|refine dw_want rfl rfl ?_|refine dw_skip rfl rfl ?_|refine dw_pickF rfl rfl ?_|refine dw_p rfl ?_|refine dw_a rfl ?_|refine dw_nil ?_|refine ds_seq ?_|refine ds_ops mix (fun base => ?_))
  exact ds_ret ⟨_, rfl, rfl, rfl⟩
 | 1, _ =>
  repeat (first|refine dw_want rfl rfl ?_|refine dw_skip rfl rfl ?_|refine dw_pickT rfl rfl ?_|refine dw_pickF rfl rfl ?_|refine dw_p rfl ?_|refine dw_l rfl ?_|refine dw_a rfl ?_|refine dw_nil ?_|refine ds_seq ?_|refine ds_ops mix (fun base => ?_))
  refine ds_ret ⟨_, rfl, rfl, ?_⟩
  exact congrArg DV.bool (by rw [hw]; rfl)
 | 2, _ =>
  by_cases h : p.2.tmod 2 = 0
  ·have hb : (p.2.tmod 2 == 0) = true := by simpa using h
   repeat (first|refine dw_want rfl rfl ?_|refine dw_skip rfl rfl ?_|refine dw_skipU rfl ?_|refine dw_pickT rfl rfl ?_|refine dw_pickF rfl rfl ?_|refine dw_pB rfl aM ?_|refine dw_p rfl ?_|refine dw_l rfl ?_|refine dw_a rfl ?_|refine dw_nil ?_|refine ds_seq ?_|refine ds_ops mix (fun base => ?_))
   exact ds_ret ⟨_, rfl, rfl, by rw [texP]; simp [h]⟩
  ·have hb : (p.2.tmod 2 == 0) = false := by simpa using h
   repeat (first|refine dw_want rfl rfl ?_|refine dw_skip rfl rfl ?_|refine dw_pickT rfl rfl ?_|refine dw_pickF rfl rfl ?_|refine dw_pB rfl aM ?_|refine dw_p rfl ?_|refine dw_l rfl ?_|refine dw_a rfl ?_|refine dw_nil ?_|refine ds_seq ?_|refine ds_ops mix (fun base => ?_))
   exact ds_ret ⟨_, rfl, rfl, by rw [texP]; simp [h]⟩
 | 3, _ =>
  repeat (first|refine dw_skip rfl rfl ?_|refine dw_skipU rfl ?_|refine dw_pickT rfl rfl ?_|refine dw_p rfl ?_|refine dw_a rfl ?_|refine dw_nil ?_|refine ds_seq ?_|refine ds_ops mix (fun base => ?_))
  exact ds_ret ⟨_, rfl, rfl, rfl⟩
 | k + 4, h => omega
def texN (n : Nat) : FuncId := 79 + n
theorem d_tex0 {p : Pt2} : DK 79 [ptD p] fun d => d = .bool (texP 0 p) := by
 refine dfn_ok cp79 rfl GHro fun Z0 lo => ?_
 repeat (first|refine dw_p rfl ?_|refine dw_a rfl ?_|refine dw_nil ?_|refine ds_seq ?_|refine ds_ops mix (fun base => ?_))
 exact ds_ret ⟨_, rfl, rfl, rfl⟩
theorem d_tex3 {p : Pt2} : DK 82 [ptD p] fun d => d = .bool (texP 3 p) := by
 refine dfn_ok cp82 rfl GHro fun Z0 lo => ?_
 repeat (first|refine dw_p rfl ?_|refine dw_a rfl ?_|refine dw_nil ?_|refine ds_seq ?_|refine ds_ops mix (fun base => ?_))
 exact ds_ret ⟨_, rfl, rfl, rfl⟩
theorem d_tex2 {p : Pt2} : DK 81 [ptD p] fun d => d = .bool (texP 2 p) := by
 refine dfn_ok cp81 rfl GHro fun Z0 lo => ?_
 repeat (first|refine dw_p rfl ?_|refine dw_l rfl ?_|refine dw_a rfl ?_|refine dw_nil ?_|refine ds_seq ?_|refine ds_ops mix (fun base => ?_))
 refine ds_ret ⟨_, rfl, rfl, ?_⟩
 exact congrArg DV.bool (by rw [texP]; by_cases h : p.2.tmod 2 = 0 <;> simp [h])
theorem d_tex1 {p : Pt2} (hp : Small 1000 p) : DK 80 [ptD p] fun d => d = .bool (texP 1 p) := by
 refine dfn_ok cp80 rfl GHro fun Z0 lo => ?_
 have hw : IntKind.i64.wrap (p.1 + p.2) = p.1 + p.2 := by unfold Small at hp; exact dwrap oM oM
 repeat (first|refine dw_p rfl ?_|refine dw_l rfl ?_|refine dw_a rfl ?_|refine dw_nil ?_|refine ds_seq ?_|refine ds_ops mix (fun base => ?_))
 refine ds_ret ⟨_, rfl, rfl, ?_⟩
 exact congrArg DV.bool (by rw [hw]; rfl)
theorem d_texture {k : Nat} (hk : k < 4) : DK 63 [.int k] fun d => d = fnK (texN k) := by
 refine dfn_ok cp63 rfl GHro fun Z0 lo => ?_
 match k, hk with
 | 0, _ =>
  repeat (first|refine dw_p rfl ?_|refine dw_l rfl ?_|refine dw_a rfl ?_|refine dw_st rfl rfl rfl rfl rfl (Nat.le_of_ble_eq_true rfl) rfl ?_|refine dw_nil ?_|refine ds_seq ?_|refine ds_ops mix (fun base => ?_))
  exact ds_ret ⟨_, rfl, rfl, rfl⟩
 | 1, _ =>
  repeat (first|refine dw_p rfl ?_|refine dw_l rfl ?_|refine dw_a rfl ?_|refine dw_st rfl rfl rfl rfl rfl (Nat.le_of_ble_eq_true rfl) rfl ?_|refine dw_nil ?_|refine ds_seq ?_|refine ds_ops mix (fun base => ?_))
  exact ds_ret ⟨_, rfl, rfl, rfl⟩
 | 2, _ =>
  repeat (first|refine dw_p rfl ?_|refine dw_l rfl ?_|refine dw_a rfl ?_|refine dw_st rfl rfl rfl rfl rfl (Nat.le_of_ble_eq_true rfl) rfl ?_|refine dw_nil ?_|refine ds_seq ?_|refine ds_ops mix (fun base => ?_))
  exact ds_ret ⟨_, rfl, rfl, rfl⟩
 | 3, _ =>
  repeat (first|refine dw_p rfl ?_|refine dw_l rfl ?_|refine dw_a rfl ?_|refine dw_st rfl rfl rfl rfl rfl (Nat.le_of_ble_eq_true rfl) rfl ?_|refine dw_nil ?_|refine ds_seq ?_|refine ds_ops mix (fun base => ?_))
  exact ds_ret ⟨_, rfl, rfl, rfl⟩
 | k + 4, h => omega
structure Ft where
 kind : Int
 tex : Int
 pts : List Pt2
def ftF (f : Ft) : List FD := [.c (.int .i64 f.kind), .c (.int .i64 f.tex), .sl 2 f.pts.length (f.pts.flatMap ptF)]
def ftD (f : Ft) : DV := .agg [.f (.c (.int .i64 f.kind)), .f (.c (.int .i64 f.tex)), .f (.sl 2 f.pts.length (f.pts.flatMap ptF))]
def in60 (p : Pt2) : Bool := decide (0 <= p.1) && decide (p.1 < 60) && (decide (0 <= p.2) && decide (p.2 < 60))
def kindOk (f : Ft) : Bool := if f.kind = 1 then f.pts.length == 1 && f.tex == 0 else if f.kind = 2 then decide (2 <= f.pts.length) && f.tex == 0 else if f.kind = 3 then decide (3 <= f.pts.length) && decide (0 <= f.tex) && decide (f.tex <= 3) else false
def validF (f : Ft) : Bool := decide (1 <= f.pts.length) && decide (f.pts.length <= 12) && f.pts.all in60 && kindOk f
theorem itOr (a b : Bool) : (if a = true then true else b) = (a || b) := by cases a <;> rfl
theorem natcast_beq (n : Nat) : ((n : Int) == 1) = (n == 1) := by
 by_cases h : n = 1
 ·subst h; rfl
 ·have : ¬ (n : Int) = 1 := by omega
  rw [beq_eq_false_iff_ne.2 h, beq_eq_false_iff_ne.2 this]
theorem itAnd (a b : Bool) : (if a = true then b else false) = (a && b) := by cases a <;> rfl
theorem in60_iff {p : Pt2} : in60 p = true ↔ (0 <= p.1 /\ p.1 < 60) /\ 0 <= p.2 /\ p.2 < 60 := by simp [in60]
theorem validF_of {f : Ft} (h1 : 1 <= f.pts.length) (h2 : f.pts.length <= 12) (h3 : ∀ (j : Nat) q, j < f.pts.length -> f.pts[j]? = some q -> in60 q = true) : validF f = kindOk f := by
 rw [validF, decide_eq_true h1, decide_eq_true h2, List.all_eq_true.2]
 ·simp
 ·intro x hx
  obtain ⟨j, hj⟩ := List.getElem?_of_mem hx
  exact h3 j x (List.getElem?_eq_some_iff.1 hj).1 hj
theorem validF_bad {f : Ft} {q : Pt2} {i : Nat} (hq : f.pts[i]? = some q) (h : ¬ in60 q = true) : validF f = false := by
 have : f.pts.all in60 = false := by
  rw [List.all_eq_false]
  exact ⟨q, List.mem_of_getElem? hq, h⟩
 rw [validF, this]
 simp
theorem d_valid {f : Ft} (hn : f.pts.length < 1000) : DK 29 [ftD f] fun d => d = .bool (validF f) := by
 refine dfn_ok cp29 rfl GHro fun Z0 lo => ?_
 repeat (first|refine dw_pick rfl dgA dgA ?_|refine dw_p rfl ?_|refine dw_l rfl ?_|refine dw_pg rfl dgA ?_|refine dw_a rfl ?_|refine dw_nil ?_|refine ds_seq ?_|refine ds_ops mix (fun base => ?_))
 refine ds_if rfl (fun ht => ?_) (fun ht => ?_)
 ·repeat (first|refine dw_p rfl ?_|refine dw_nil ?_|refine ds_seq ?_|refine ds_ops mix (fun base => ?_))
  refine ds_ret ⟨_, rfl, rfl, ?_⟩
  rw [itOr] at ht; simp only [Bool.or_eq_true, decide_eq_true_eq] at ht
  refine congrArg DV.bool ?_
  rw [validF]
  rcases ht with h|h
  ·rw [decide_eq_false (show ¬ 1 <= f.pts.length by omega)]; rfl
  ·rw [decide_eq_false (show ¬ f.pts.length <= 12 by omega), Bool.and_false]; rfl
 ·rw [itOr] at ht; simp only [Bool.or_eq_false_iff, decide_eq_false_iff_not] at ht
  repeat (first|refine dw_p rfl ?_|refine dw_l rfl ?_|refine dw_nil ?_|refine ds_seq ?_|refine ds_ops mix (fun base => ?_)|refine ds_skip ?_|refine ds_block ?_)
  refine ds_loop (fun m E S nk => ∃ i : Nat, i + m = f.pts.length /\ (∀ (j : Nat) q, j < i -> f.pts[j]? = some q -> in60 q = true) /\ E = [(1, .one (.ptr 0 0)), (3, .int f.pts.length), (16, ptsD f.pts), (17, .int f.pts.length), (18, .int i)] /\ S = [(0, .cells [.f (.c (.int .i64 f.kind)), .f (.c (.int .i64 f.tex)), .f (.sl 2 f.pts.length (f.pts.flatMap ptF))])] /\ nk = 1)
   ⟨f.pts.length, _, _, _, [], ?wk, 0, oM, fun j q hj => oM, rfl, rfl, rfl⟩ ?_
  case wk => exact wkA
  rintro m E S nk ⟨i, hi, hok, rfl, rfl, rfl⟩
  repeat (first|refine dw_p rfl ?_|refine dw_nil ?_|refine ds_seq ?_|refine ds_ops mix (fun base => ?_))
  refine ds_if rfl (fun ht2 => ?_) (fun ht2 => ?_)
  ·have ht2 : i < f.pts.length := by have := of_decide_eq_true ht2; omega
   obtain ⟨q, hq⟩ : ∃ q, f.pts[i]? = some q := ⟨_, List.getElem?_eq_getElem ht2⟩
   have e1 := ptF_at hq
   repeat (first|refine dw_pick rfl dgA dgA ?_|refine dw_p rfl ?_|refine dw_l rfl ?_|refine dw_pg rfl dgA ?_|refine dw_lg rfl dgA ?_|refine dw_if rfl rfl oM (by decide) aM ?_|refine dw_a rfl ?_|refine dw_st rfl rfl rfl rfl rfl (Nat.le_of_ble_eq_true rfl) rfl ?_|refine dw_nil ?_|refine ds_seq ?_|refine ds_ops mix (fun base => ?_)|refine ds_skip ?_|refine ds_block ?_)
   refine ds_if rfl (fun hb => ?_) (fun hb => ?_)
   ·rw [itOr, itOr, itOr] at hb; simp only [Bool.or_eq_true, decide_eq_true_eq] at hb
    have hb : ¬ in60 q = true := by rw [in60_iff]; omega
    repeat (first|refine dw_p rfl ?_|refine dw_nil ?_|refine ds_seq ?_|refine ds_ops mix (fun base => ?_))
    exact ds_ret ⟨_, rfl, rfl, by rw [validF_bad hq hb]⟩
   ·rw [itOr, itOr, itOr] at hb; simp only [Bool.or_eq_false_iff, decide_eq_false_iff_not] at hb
    have hb : in60 q = true := by rw [in60_iff]; omega
    repeat (first|refine dw_p rfl ?_|refine dw_nil ?_|refine ds_ops mix (fun base => ?_)|refine ds_skip ?_)
    refine ⟨m - 1, oM, _, _, _, [], ?wk1, i + 1, oM, ?hno, rfl, rfl, rfl⟩
    case hno =>
     intro j q' hj hq'
     by_cases hji : j = i
     ·subst hji; rw [hq] at hq'; rw [<- Option.some.inj hq']; exact hb
     ·exact hok j q' oM hq'
    case wk1 => exact wkA
  ·have ht2 : i = f.pts.length := by have := of_decide_eq_false ht2; omega
   subst ht2
   have hv := validF_of oM oM hok
   rw [hv]
   repeat (first|refine dw_p rfl ?_|refine dw_l rfl ?_|refine dw_nil ?_|refine ds_seq ?_|refine ds_ops mix (fun base => ?_)|refine ds_block ?_|refine ds_exit ?_)
   refine ds_if rfl (fun h1 => ?_) (fun h1 => ?_)
   ·have h1 : f.kind = 1 := by simpa using h1
    repeat (first|refine dw_pick rfl dgA dgA ?_|refine dw_p rfl ?_|refine dw_pg rfl dgA ?_|refine dw_lg rfl dgA ?_|refine dw_nil ?_|refine ds_seq ?_|refine ds_ops mix (fun base => ?_))
    refine ds_ret ⟨_, rfl, rfl, congrArg DV.bool ?_⟩
    rw [itAnd, kindOk, if_pos h1]
    congr 1
    exact natcast_beq _
   ·have h1 : ¬ f.kind = 1 := by simpa using h1
    repeat (first|refine dw_p rfl ?_|refine dw_nil ?_|refine ds_seq ?_|refine ds_ops mix (fun base => ?_))
    refine ds_if rfl (fun h2 => ?_) (fun h2 => ?_)
    ·have h2 : f.kind = 2 := by simpa using h2
     repeat (first|refine dw_pick rfl dgA dgA ?_|refine dw_p rfl ?_|refine dw_pg rfl dgA ?_|refine dw_lg rfl dgA ?_|refine dw_nil ?_|refine ds_seq ?_|refine ds_ops mix (fun base => ?_))
     refine ds_ret ⟨_, rfl, rfl, congrArg DV.bool ?_⟩
     rw [itAnd, kindOk, if_neg h1, if_pos h2]
     congr 1
     exact decide_eq_decide.2 oM
    ·have h2 : ¬ f.kind = 2 := by simpa using h2
     repeat (first|refine dw_p rfl ?_|refine dw_nil ?_|refine ds_seq ?_|refine ds_ops mix (fun base => ?_))
     refine ds_if rfl (fun h3 => ?_) (fun h3 => ?_)
     ·have h3 : f.kind = 3 := by simpa using h3
      repeat (first|refine dw_pick rfl dgA dgA ?_|refine dw_p rfl ?_|refine dw_pg rfl dgA ?_|refine dw_lg rfl dgA ?_|refine dw_nil ?_|refine ds_seq ?_|refine ds_ops mix (fun base => ?_))
      refine ds_ret ⟨_, rfl, rfl, congrArg DV.bool ?_⟩
      rw [itAnd, itAnd, kindOk, if_neg h1, if_neg h2, if_pos h3]
      congr 2
      exact decide_eq_decide.2 oM
     ·have h3 : ¬ f.kind = 3 := by simpa using h3
      repeat (first|refine dw_p rfl ?_|refine dw_nil ?_|refine ds_seq ?_|refine ds_ops mix (fun base => ?_)|refine ds_skip ?_)
      refine ds_ret ⟨_, rfl, rfl, congrArg DV.bool ?_⟩
      rw [kindOk, if_neg h1, if_neg h2, if_neg h3]
theorem kindOk_pos {f : Ft} (h : f.pts.length = 0) : kindOk f = false := by
 rw [kindOk, h]
 split
 ·rfl
 ·split
  ·rfl
  ·split <;> rfl
theorem d_rvalid {f : Ft} (hn : f.pts.length < 1000) : DK 30 [ftD f] fun d => d = .bool (validF f) := by
 refine dfn_ok cp30 rfl GHro fun Z0 lo => ?_
 repeat (first|refine dw_p rfl ?_|refine dw_l rfl ?_|refine dw_a rfl ?_|refine dw_nil ?_|refine ds_seq ?_|refine ds_ops mix (fun base => ?_)|refine ds_block ?_)
 refine ds_loop (fun m E S nk => ∃ i : Nat, i + m = f.pts.length /\ (∀ (j : Nat) q, j < i -> f.pts[j]? = some q -> in60 q = true) /\ E = [(1, .one (.ptr 0 0)), (3, .int f.pts.length), (4, .int i)] /\ S = [(0, .cells [.f (.c (.int .i64 f.kind)), .f (.c (.int .i64 f.tex)), .f (.sl 2 f.pts.length (f.pts.flatMap ptF))])] /\ nk = 1)
   ⟨f.pts.length, _, _, _, [], ?wk, 0, oM, fun j q hj => oM, rfl, rfl, rfl⟩ ?_
 case wk => exact wkA
 rintro m E S nk ⟨i, hi, hok, rfl, rfl, rfl⟩
 repeat (first|refine dw_p rfl ?_|refine dw_nil ?_|refine ds_seq ?_|refine ds_ops mix (fun base => ?_))
 refine ds_if rfl (fun ht2 => ?_) (fun ht2 => ?_)
 ·have ht2 : i < f.pts.length := by have := of_decide_eq_true ht2; omega
  obtain ⟨q, hq⟩ : ∃ q, f.pts[i]? = some q := ⟨_, List.getElem?_eq_getElem ht2⟩
  have e1 := ptF_at hq
  repeat (first|refine dw_pick rfl dgA dgA ?_|refine dw_p rfl ?_|refine dw_l rfl ?_|refine dw_pg rfl dgA ?_|refine dw_lg rfl dgA ?_|refine dw_if rfl rfl oM (by decide) aM ?_|refine dw_a rfl ?_|refine dw_st rfl rfl rfl rfl rfl (Nat.le_of_ble_eq_true rfl) rfl ?_|refine dw_nil ?_|refine ds_seq ?_|refine ds_ops mix (fun base => ?_)|refine ds_skip ?_|refine ds_block ?_)
  refine ds_if rfl (fun hb => ?_) (fun hb => ?_)
  ·rw [itOr, itOr, itOr] at hb; simp only [Bool.or_eq_true, decide_eq_true_eq] at hb
   have hb : ¬ in60 q = true := by rw [in60_iff]; omega
   repeat (first|refine dw_p rfl ?_|refine dw_nil ?_|refine ds_seq ?_|refine ds_ops mix (fun base => ?_))
   exact ds_ret ⟨_, rfl, rfl, by rw [validF_bad hq hb]⟩
  ·rw [itOr, itOr, itOr] at hb; simp only [Bool.or_eq_false_iff, decide_eq_false_iff_not] at hb
   have hb : in60 q = true := by rw [in60_iff]; omega
   repeat (first|refine dw_p rfl ?_|refine dw_nil ?_|refine ds_ops mix (fun base => ?_)|refine ds_skip ?_)
   refine ⟨m - 1, oM, _, _, _, [], ?wk1, i + 1, oM, ?hno, rfl, rfl, rfl⟩
   case hno =>
    intro j q' hj hq'
    by_cases hji : j = i
    ·subst hji; rw [hq] at hq'; rw [<- Option.some.inj hq']; exact hb
    ·exact hok j q' oM hq'
   case wk1 => exact wkA
 ·have ht2 : i = f.pts.length := by have := of_decide_eq_false ht2; omega
  subst ht2
  repeat (first|refine dw_p rfl ?_|refine dw_nil ?_|refine ds_seq ?_|refine ds_ops mix (fun base => ?_)|refine ds_exit ?_)
  refine ds_if rfl (fun hg => ?_) (fun hg => ?_)
  ·have hg := of_decide_eq_true hg
   repeat (first|refine dw_p rfl ?_|refine dw_nil ?_|refine ds_seq ?_|refine ds_ops mix (fun base => ?_))
   refine ds_ret ⟨_, rfl, rfl, congrArg DV.bool ?_⟩
   rw [validF, decide_eq_false (show ¬ f.pts.length <= 12 by omega), Bool.and_false]; rfl
  ·have hg := of_decide_eq_false hg
   have hv : validF f = kindOk f := by
    by_cases h0 : f.pts.length = 0
    ·rw [kindOk_pos h0, validF, h0]; rfl
    ·exact validF_of oM oM hok
   rw [hv]
   repeat (first|refine dw_p rfl ?_|refine dw_l rfl ?_|refine dw_nil ?_|refine ds_seq ?_|refine ds_ops mix (fun base => ?_)|refine ds_skip ?_|refine ds_block ?_)
   refine ds_if rfl (fun h1 => ?_) (fun h1 => ?_)
   ·have h1 : f.kind = 1 := by simpa using h1
    repeat (first|refine dw_pick rfl dgA dgA ?_|refine dw_p rfl ?_|refine dw_pg rfl dgA ?_|refine dw_lg rfl dgA ?_|refine dw_nil ?_|refine ds_seq ?_|refine ds_ops mix (fun base => ?_))
    refine ds_ret ⟨_, rfl, rfl, congrArg DV.bool ?_⟩
    rw [itAnd, kindOk, if_pos h1]
    congr 1
    exact natcast_beq _
   ·have h1 : ¬ f.kind = 1 := by simpa using h1
    repeat (first|refine dw_p rfl ?_|refine dw_nil ?_|refine ds_seq ?_|refine ds_ops mix (fun base => ?_))
    refine ds_if rfl (fun h2 => ?_) (fun h2 => ?_)
    ·have h2 : f.kind = 2 := by simpa using h2
     repeat (first|refine dw_pick rfl dgA dgA ?_|refine dw_p rfl ?_|refine dw_pg rfl dgA ?_|refine dw_lg rfl dgA ?_|refine dw_nil ?_|refine ds_seq ?_|refine ds_ops mix (fun base => ?_))
     refine ds_ret ⟨_, rfl, rfl, congrArg DV.bool ?_⟩
     rw [itAnd, kindOk, if_neg h1, if_pos h2]
     congr 1
     exact decide_eq_decide.2 oM
    ·have h2 : ¬ f.kind = 2 := by simpa using h2
     repeat (first|refine dw_p rfl ?_|refine dw_nil ?_|refine ds_seq ?_|refine ds_ops mix (fun base => ?_))
     refine ds_if rfl (fun h3 => ?_) (fun h3 => ?_)
     ·have h3 : f.kind = 3 := by simpa using h3
      repeat (first|refine dw_pick rfl dgA dgA ?_|refine dw_p rfl ?_|refine dw_pg rfl dgA ?_|refine dw_lg rfl dgA ?_|refine dw_nil ?_|refine ds_seq ?_|refine ds_ops mix (fun base => ?_))
      refine ds_ret ⟨_, rfl, rfl, congrArg DV.bool ?_⟩
      rw [itAnd, itAnd, kindOk, if_neg h1, if_neg h2, if_pos h3]
      congr 2
      exact decide_eq_decide.2 oM
     ·have h3 : ¬ f.kind = 3 := by simpa using h3
      repeat (first|refine dw_p rfl ?_|refine dw_nil ?_|refine ds_seq ?_|refine ds_ops mix (fun base => ?_)|refine ds_skip ?_)
      refine ds_ret ⟨_, rfl, rfl, congrArg DV.bool ?_⟩
      rw [kindOk, if_neg h1, if_neg h2, if_neg h3]
def InBox (lo hi p : Pt2) : Prop := (lo.1 <= p.1 /\ p.1 <= hi.1) /\ lo.2 <= p.2 /\ p.2 <= hi.2
theorem onP_box {a b p lo hi : Pt2} (h : onP a b p = true) (ha : InBox lo hi a) (hb : InBox lo hi b) : InBox lo hi p := by
 simp only [onP, Bool.and_eq_true, decide_eq_true_eq] at h
 unfold InBox at *
 omega
theorem cross_id' (u v h t : Int) : u * (h + t) - t * (u - v) = u * h + t * v := by
 rw [Int.mul_add, Int.mul_sub, Int.mul_comm t u]
 omega
theorem cross_id (a b p : Pt2) : (p.1 - a.1) * (b.2 - a.2) - (p.2 - a.2) * (b.1 - a.1) = (p.1 - a.1) * (b.2 - p.2) + (p.2 - a.2) * (p.1 - b.1) := by
 rw [<- cross_id', show b.2 - p.2 + (p.2 - a.2) = b.2 - a.2 by omega, show p.1 - a.1 - (p.1 - b.1) = b.1 - a.1 by omega]
theorem pas_left {a b p : Pt2} (ha : p.1 < a.1) (hb : p.1 < b.1) : pasP a b p = xor (decide (a.2 <= p.2)) (decide (b.2 <= p.2)) := by
 have e := cross_id a b p
 unfold pasP
 by_cases h1 : a.2 <= p.2
 ·by_cases h2 : b.2 <= p.2
  ·simp [h1, h2]
  ·have m1 : (p.1 - a.1) * (b.2 - p.2) < 0 := Int.mul_neg_of_neg_of_pos oM oM
   have m2 : (p.2 - a.2) * (p.1 - b.1) <= 0 := Int.mul_nonpos_of_nonneg_of_nonpos oM oM
   rw [decide_eq_true h1, decide_eq_false h2, if_neg (by decide), if_pos (by omega), decide_eq_true (by omega)]
   rfl
 ·by_cases h2 : b.2 <= p.2
  ·have m1 : 0 <= (p.1 - a.1) * (b.2 - p.2) := Int.mul_nonneg_of_nonpos_of_nonpos oM oM
   have m2 : 0 < (p.2 - a.2) * (p.1 - b.1) := Int.mul_pos_of_neg_of_neg oM oM
   rw [decide_eq_false h1, decide_eq_true h2, if_neg (by decide), if_neg (by omega), decide_eq_true (by omega)]
   rfl
  ·simp [h1, h2]
theorem pas_right {a b p : Pt2} (ha : a.1 < p.1) (hb : b.1 < p.1) : pasP a b p = false := by
 have e := cross_id a b p
 unfold pasP
 by_cases h1 : a.2 <= p.2
 ·by_cases h2 : b.2 <= p.2
  ·simp [h1, h2]
  ·have m1 : 0 < (p.1 - a.1) * (b.2 - p.2) := Int.mul_pos oM oM
   have m2 : 0 <= (p.2 - a.2) * (p.1 - b.1) := Int.mul_nonneg oM oM
   rw [decide_eq_true h1, decide_eq_false h2, if_neg (by decide), if_pos (by omega), decide_eq_false (by omega)]
 ·by_cases h2 : b.2 <= p.2
  ·have m1 : (p.1 - a.1) * (b.2 - p.2) <= 0 := Int.mul_nonpos_of_nonneg_of_nonpos oM oM
   have m2 : (p.2 - a.2) * (p.1 - b.1) < 0 := Int.mul_neg_of_neg_of_pos oM oM
   rw [decide_eq_false h1, decide_eq_true h2, if_neg (by decide), if_neg (by omega), decide_eq_false (by omega)]
  ·simp [h1, h2]
theorem pas_flat {a b p : Pt2} (h : decide (a.2 <= p.2) = decide (b.2 <= p.2)) : pasP a b p = false := by rw [pasP, if_pos h]
theorem odds_none {L : List Pt2} {p : Pt2} : ∀ {n : Nat}, (∀ i, i < n -> sPas L p i = false) -> odds L p n = false
 | 0, _ => rfl
 | n + 1, h => by rw [odds, odds_none (n := n) (fun i hi => h i (by omega)), h n (by omega)]; rfl
theorem odds_left {L : List Pt2} {p : Pt2} (h : ∀ i, i < L.length -> p.1 < (at0 L i).1) : ∀ {n : Nat}, n < L.length -> odds L p n = xor (decide ((at0 L 0).2 <= p.2)) (decide ((at0 L n).2 <= p.2))
 | 0, _ => by rw [odds]; simp
 | n + 1, hn => by
  have e : nxt L n = n + 1 := by rw [nxt, Nat.mod_eq_of_lt (by omega)]
  rw [odds, odds_left h (n := n) (by omega), sPas, e, pas_left (h n (by omega)) (h (n + 1) (by omega))]
  cases decide ((at0 L 0).2 <= p.2) <;> cases decide ((at0 L n).2 <= p.2) <;> cases decide ((at0 L (n + 1)).2 <= p.2) <;> rfl
theorem at0_mem {L : List Pt2} {i : Nat} (hi : i < L.length) : at0 L i ∈ L := by
 rw [at0, List.getElem?_eq_getElem hi]
 exact List.getElem_mem hi
theorem nxt_lt {L : List Pt2} {i : Nat} (hi : i < L.length) : nxt L i < L.length := Nat.mod_lt _ oM
theorem inP_box {L : List Pt2} {lo hi p : Pt2} (hL : ∀ q ∈ L, InBox lo hi q) (h : inP L p = true) : InBox lo hi p := by
 have hat : ∀ i, i < L.length -> InBox lo hi (at0 L i) := fun i hi => hL _ (at0_mem hi)
 rw [inP, Bool.or_eq_true] at h
 rcases h with h|h
 ·obtain ⟨i, hi, h⟩ := List.any_eq_true.1 h
  have hi := List.mem_range.1 hi
  exact onP_box h (hat i hi) (hat _ (nxt_lt hi))
 ·have h0 : 0 < L.length := by
   cases hl : L.length with
   | zero => rw [hl] at h; cases h
   | succ => omega
  have no : (∀ i, i < L.length -> sPas L p i = false) -> False := fun hno => by
   rw [odds_none hno] at h
   cases h
  have h1 : lo.2 <= p.2 := by
   false_or_by_contra
   refine no fun i hi => pas_flat ?_
   have g1 := hat i hi
   have g2 := hat _ (nxt_lt hi)
   unfold InBox at g1 g2
   rw [decide_eq_false (by omega), decide_eq_false (by omega)]
  have h2 : p.2 <= hi.2 := by
   false_or_by_contra
   refine no fun i hi => pas_flat ?_
   have g1 := hat i hi
   have g2 := hat _ (nxt_lt hi)
   unfold InBox at g1 g2
   rw [decide_eq_true (by omega), decide_eq_true (by omega)]
  have h3 : p.1 <= hi.1 := by
   false_or_by_contra
   refine no fun i hi => pas_right ?_ ?_
   ·have g1 := hat i hi
    unfold InBox at g1
    omega
   ·have g1 := hat _ (nxt_lt hi)
    unfold InBox at g1
    omega
  have h4 : lo.1 <= p.1 := by
   false_or_by_contra
   have hl : ∀ i, i < L.length -> p.1 < (at0 L i).1 := fun i hi => by
    have g1 := hat i hi
    unfold InBox at g1
    omega
   obtain ⟨n, hn⟩ : ∃ n, L.length = n + 1 := ⟨L.length - 1, oM⟩
   have e : nxt L n = 0 := by rw [nxt, <- hn, Nat.mod_self]
   rw [hn, odds, odds_left hl (n := n) (by omega), sPas, e, pas_left (hl n (by omega)) (hl 0 h0)] at h
   cases hx : decide ((at0 L 0).2 <= p.2) <;> cases hy : decide ((at0 L n).2 <= p.2) <;> rw [hx, hy] at h <;> cases h
  exact ⟨⟨h4, h3⟩, h1, h2⟩
def alongL (L : List Pt2) : List Pt2 := (List.range (L.length - 1)).flatMap fun i => lineP (at0 L i) (at0 L (nxt L i))
def aroundL (L : List Pt2) : List Pt2 := (List.range L.length).flatMap fun i => lineP (at0 L i) (at0 L (nxt L i))
def gridL : List Pt2 := (List.range 60).flatMap fun (y : Nat) => (List.range 60).map fun (x : Nat) => ((x : Int), (y : Int))
theorem gridL_mem {p : Pt2} : p ∈ gridL ↔ in60 p = true := by
 obtain ⟨x, y⟩ := p
 rw [in60_iff]
 simp only [gridL, List.mem_flatMap, List.mem_map, List.mem_range, Prod.mk.injEq]
 constructor
 ·rintro ⟨b, hb, a, ha, rfl, rfl⟩
  omega
 ·rintro ⟨⟨h1, h2⟩, h3, h4⟩
  exact ⟨y.toNat, oM, x.toNat, oM, oM, oM⟩
def fillL (f : Ft) : List Pt2 := gridL.filter fun p => texP f.tex p && inP f.pts p
def pointsF (f : Ft) : List Pt2 := if f.kind = 1 then f.pts else if f.kind = 2 then sortedP (alongL f.pts) else sortedP (aroundL f.pts ++ fillL f)
theorem aroundL_mem {L : List Pt2} {p : Pt2} : p ∈ aroundL L ↔ ∃ (i : Nat) (a b : Pt2), L[i]? = some a /\ L[nxt L i]? = some b /\ p ∈ lineP a b := by
 simp only [aroundL, List.mem_flatMap, List.mem_range]
 constructor
 ·rintro ⟨i, hi, hp⟩
  exact ⟨i, _, _, List.getElem?_eq_getElem hi, List.getElem?_eq_getElem (nxt_lt hi), by simpa [at0, List.getElem?_eq_getElem hi, List.getElem?_eq_getElem (nxt_lt hi)] using hp⟩
 ·rintro ⟨i, a, b, ha, hb, hp⟩
  exact ⟨i, (List.getElem?_eq_some_iff.1 ha).1, by rw [at0_of ha, at0_of hb]; exact hp⟩
theorem alongL_mem {L : List Pt2} {p : Pt2} : p ∈ alongL L ↔ ∃ (i : Nat) (a b : Pt2), i < L.length - 1 /\ L[i]? = some a /\ L[i + 1]? = some b /\ p ∈ lineP a b := by
 simp only [alongL, List.mem_flatMap, List.mem_range]
 constructor
 ·rintro ⟨i, hi, hp⟩
  have e : nxt L i = i + 1 := by rw [nxt, Nat.mod_eq_of_lt (by omega)]
  rw [e] at hp
  exact ⟨i, _, _, hi, List.getElem?_eq_getElem (by omega), List.getElem?_eq_getElem (by omega), by simpa [at0, List.getElem?_eq_getElem (show i < L.length by omega), List.getElem?_eq_getElem (show i + 1 < L.length by omega)] using hp⟩
 ·rintro ⟨i, a, b, hi, ha, hb, hp⟩
  have e : nxt L i = i + 1 := by rw [nxt, Nat.mod_eq_of_lt (by omega)]
  exact ⟨i, hi, by rw [e, at0_of ha, at0_of hb]; exact hp⟩
theorem sorted_eq {l m : List Pt2} (h : ∀ p, p ∈ l ↔ p ∈ m) : sortedP l = sortedP m := ByRows.ext (sortedP_rows l) (sortedP_rows m) fun p => by rw [sortedP_mem, sortedP_mem, h]
theorem dw_wk {p : Par} {base : Nat} {Q : DEnv -> Bx -> Nat -> Prop} {r : List SOper} {A : List Nat} {E E0 : DEnv} {S S0 : Bx} {nk n0 : Nat} (ρ : List (Nat × Nat)) (hw : Wk p ρ n0 E0 S0 E S) (h : DPW p base 0 Q r [] A E0 S0 n0) : DPW p base 0 Q r [] A E S nk := .mk fun Z β H F c hS hE hC hA => by
 obtain ⟨β0, h1, h2⟩ := wk_ok hS hE hw
 refine h.run Z β0 H F c h1 h2 (fun x hx => ?_) ⟨hA.1, fun j hj => oM⟩
 obtain ⟨y, hy, _⟩ := hC x hx
 cases hy
theorem valid_pts {f : Ft} (h : validF f = true) : (1 <= f.pts.length /\ f.pts.length <= 12) /\ (∀ p ∈ f.pts, in60 p = true) /\ kindOk f = true := by
 simp only [validF, Bool.and_eq_true, decide_eq_true_eq, List.all_eq_true] at h
 exact ⟨h.1.1, h.1.2, h.2⟩
theorem in60_small {p : Pt2} (h : in60 p = true) : Small 1000 p := by
 rw [in60_iff] at h
 unfold Small
 omega
theorem lineP_fst (a b : Pt2) : a ∈ lineP a b := by
 have h := lineP_at a b (k := 0) (by rw [far_abs]; omega)
 rw [lineAt_zero] at h
 exact List.mem_of_getElem? h
theorem d_texK {k : Nat} {p : Pt2} (hk : k < 4) (hp : Small 1000 p) : DK (texN k) [ptD p] fun d => d = .bool (texP k p) := by
 match k, hk with
 | 0, _ => exact d_tex0
 | 1, _ => exact d_tex1 hp
 | 2, _ => exact d_tex2
 | 3, _ => exact d_tex3
 | k + 4, h => omega
theorem isFn_tex {k : Nat} (hk : k < 4) : isFn Tryz.prog (texN k) = true := by
 match k, hk with
 | 0, _ => exact (show isFn Tryz.prog 79 = true by kernel_rfl)
 | 1, _ => exact (show isFn Tryz.prog 80 = true by kernel_rfl)
 | 2, _ => exact (show isFn Tryz.prog 81 = true by kernel_rfl)
 | 3, _ => exact (show isFn Tryz.prog 82 = true by kernel_rfl)
 | k + 4, h => omega
theorem d_textureI {t : Int} {k : Nat} (ht : t = k) (hk : k < 4) : DK 63 [.int t] fun d => d = fnK (texN k) := by rw [ht]; exact d_texture hk
def arS (f : Ft) (l : List Pt2) (lo hi : Pt2) : Bx := [(0, .cells [.f (.c (.int .i64 f.kind)), .f (.c (.int .i64 f.tex)), .f (.sl 2 f.pts.length (f.pts.flatMap ptF))]), (1, mapB l), (2, .cells [.f (.c (.int .i64 lo.1)), .f (.c (.int .i64 lo.2))]), (3, .cells [.f (.c (.int .i64 hi.1)), .f (.c (.int .i64 hi.2))])]
structure Fill (f : Ft) (l0 : List Pt2) (lo hi : Pt2) (x y : Int) (l : List Pt2) : Prop where
 nd : l.Nodup
 le : (l.length : Int) <= l0.length + 60 * (y - lo.2) + (x - lo.1)
 mem : ∀ p, p ∈ l ↔ p ∈ l0 \/ (InBox lo hi p /\ (p.2 < y \/ (p.2 = y /\ p.1 < x)) /\ (texP f.tex p && inP f.pts p) = true)
theorem Fill.start {f : Ft} {l0 : List Pt2} {lo hi : Pt2} (h : l0.Nodup) : Fill f l0 lo hi lo.1 lo.2 l0 := ⟨h, oM, fun p => ⟨.inl, fun h => h.elim id fun h => by
 obtain ⟨h1, h2, _⟩ := h
 unfold InBox at h1
 omega⟩⟩
theorem Fill.skip {f : Ft} {l0 l : List Pt2} {lo hi : Pt2} {x y : Int} (h : Fill f l0 lo hi x y l) (hb : (texP f.tex (x, y) && inP f.pts (x, y)) = false) : Fill f l0 lo hi (x + 1) y l := ⟨h.nd, by have := h.le; omega, fun p => by
 rw [h.mem]
 constructor
 ·rintro (h1|⟨h1, h2, h3⟩)
  ·exact .inl h1
  ·exact .inr ⟨h1, oM, h3⟩
 ·rintro (h1|⟨h1, h2, h3⟩)
  ·exact .inl h1
  ·refine .inr ⟨h1, ?_, h3⟩
   by_cases he : p = (x, y)
   ·rw [he, hb] at h3; cases h3
   ·have : ¬ (p.1 = x /\ p.2 = y) := fun h => he (Prod.ext h.1 h.2)
    omega⟩
theorem Fill.put {f : Ft} {l0 l : List Pt2} {lo hi : Pt2} {x y : Int} (h : Fill f l0 lo hi x y l) (hx : InBox lo hi (x, y)) (hb : (texP f.tex (x, y) && inP f.pts (x, y)) = true) : Fill f l0 lo hi (x + 1) y (putP l (x, y)) := ⟨putP_nodup h.nd, by have := h.le; have := (putP_le l (x, y)).2; omega, fun p => by
 rw [putP_mem, h.mem]
 constructor
 ·rintro ((h1|⟨h1, h2, h3⟩)|rfl)
  ·exact .inl h1
  ·exact .inr ⟨h1, oM, h3⟩
  ·exact .inr ⟨hx, .inr ⟨rfl, show x < x + 1 by omega⟩, hb⟩
 ·rintro (h1|⟨h1, h2, h3⟩)
  ·exact .inl (.inl h1)
  ·by_cases he : p = (x, y)
   ·exact .inr he
   ·refine .inl (.inr ⟨h1, ?_, h3⟩)
    have : ¬ (p.1 = x /\ p.2 = y) := fun h => he (Prod.ext h.1 h.2)
    omega⟩
theorem Fill.row {f : Ft} {l0 l : List Pt2} {lo hi : Pt2} {y : Int} (h : Fill f l0 lo hi (hi.1 + 1) y l) (hw : hi.1 + 1 - lo.1 <= 60) : Fill f l0 lo hi lo.1 (y + 1) l := ⟨h.nd, by have := h.le; omega, fun p => by
 rw [h.mem]
 constructor
 ·rintro (h1|⟨h1, h2, h3⟩)
  ·exact .inl h1
  ·exact .inr ⟨h1, oM, h3⟩
 ·rintro (h1|⟨h1, h2, h3⟩)
  ·exact .inl h1
  ·refine .inr ⟨h1, ?_, h3⟩
   unfold InBox at h1
   omega⟩
set_option maxHeartbeats 4000000 in
theorem d_points1 {f : Ft} (hv : validF f = true) (h1 : f.kind = 1) : DK 44 [ftD f] fun d => d = ptsD (pointsF f) := by
 obtain ⟨⟨hn1, hn2⟩, hin, hk⟩ := valid_pts hv
 have hsm : Smalls3 f.pts := fun p hp => in60_small (hin p hp)
 obtain ⟨a, ha⟩ : ∃ q, f.pts[0]? = some q := ⟨_, List.getElem?_eq_getElem oM⟩
 have e0 := ptF_at ha
 refine dfn_ok cp44 rfl GHro fun Z0 lo => ?_
 repeat (first|refine dw_p rfl ?_|refine dw_l rfl ?_|refine dw_a rfl ?_|refine dw_nil ?_|refine ds_seq ?_|refine ds_ops mix (fun base => ?_))
 refine dw_cf rfl rfl (d_valid oM) ?_
 rintro _ rfl
 rw [hv]
 repeat (first|refine dw_p rfl ?_|refine dw_nil ?_)
 refine ds_if rfl (fun ht => by cases ht) (fun _ => ?_)
 have b1 : (f.kind == 1) = true := by simpa using h1
 repeat (first|refine dw_pB rfl aM ?_|refine dw_p rfl ?_|refine dw_l rfl ?_|refine dw_nil ?_|refine ds_seq ?_|refine ds_ops mix (fun base => ?_)|refine ds_skip ?_|refine ds_block ?_)
 refine ds_if rfl (fun _ => ?_) (fun ht => by cases ht)
 repeat (first|refine dw_p rfl ?_|refine dw_l rfl ?_|refine dw_if0 rfl rfl oM (by decide) aM ?_|refine dw_a rfl ?_|refine dw_nil ?_|refine ds_seq ?_|refine ds_ops mix (fun base => ?_))
 refine ds_keep (E0 := [(2, .one (.own 1 0 1 2))]) (S0 := [(1, .data (ptF a))]) (SubA.cons rfl (SubA.nil _)) (SubA.cons rfl (SubA.nil _)) ?_
 refine ds_frz 1 rfl okZ okZ ?_
 refine ds_ret ⟨_, rfl, rfl, ?_⟩
 rw [pointsF, if_pos h1]
 have hl : f.pts.length = 1 := by
  rw [kindOk, if_pos h1] at hk
  simp at hk
  exact hk.1
 obtain ⟨x, hx⟩ := List.length_eq_one_iff.1 hl
 rw [hx] at ha ⊢
 obtain rfl := Option.some.inj ha
 rfl
set_option maxHeartbeats 4000000 in
theorem d_points2 {f : Ft} (hv : validF f = true) (h1 : ¬ f.kind = 1) (h2 : f.kind = 2) : DK 44 [ftD f] fun d => d = ptsD (pointsF f) := by
 obtain ⟨⟨hn1, hn2⟩, hin, hk⟩ := valid_pts hv
 have hsm : Smalls3 f.pts := fun p hp => in60_small (hin p hp)
 obtain ⟨a, ha⟩ : ∃ q, f.pts[0]? = some q := ⟨_, List.getElem?_eq_getElem oM⟩
 have e0 := ptF_at ha
 refine dfn_ok cp44 rfl GHro fun Z0 lo => ?_
 repeat (first|refine dw_p rfl ?_|refine dw_l rfl ?_|refine dw_a rfl ?_|refine dw_nil ?_|refine ds_seq ?_|refine ds_ops mix (fun base => ?_))
 refine dw_cf rfl rfl (d_valid oM) ?_
 rintro _ rfl
 rw [hv]
 repeat (first|refine dw_p rfl ?_|refine dw_nil ?_)
 refine ds_if rfl (fun ht => by cases ht) (fun _ => ?_)
 have b1 : (f.kind == 1) = false := by simpa using h1
 have b2 : (f.kind == 2) = true := by simpa using h2
 repeat (first|refine dw_pB rfl aM ?_|refine dw_p rfl ?_|refine dw_l rfl ?_|refine dw_nil ?_|refine ds_seq ?_|refine ds_ops mix (fun base => ?_)|refine ds_skip ?_|refine ds_block ?_)
 refine ds_if rfl (fun ht => by cases ht) (fun _ => ?_)
 repeat (first|refine dw_pB rfl aM ?_|refine dw_p rfl ?_|refine dw_nil ?_|refine ds_seq ?_|refine ds_ops mix (fun base => ?_))
 refine ds_if rfl (fun _ => ?_) (fun ht => by cases ht)
 repeat (first|refine dw_p rfl ?_|refine dw_l rfl ?_|refine ds_seq ?_|refine ds_ops mix (fun base => ?_))
 refine dw_cfr rfl rfl (do_along hsm oM) ?_
 rintro _ _ _ ⟨l, hA, rfl, rfl, rfl⟩
 refine dw_wk (E0 := [(28, .one (.om 0))]) (S0 := [(0, mapB l)]) (n0 := 1) [(0, 1)] ?hw ?_
 case hw => exact wkA
 have hl2 : 2 <= f.pts.length := by
  rw [kindOk, if_neg h1, if_pos h2] at hk
  simp at hk
  exact hk.1
 have hl0 : 0 < l.length := by
  obtain ⟨b, hb⟩ : ∃ q, f.pts[1]? = some q := ⟨_, List.getElem?_eq_getElem oM⟩
  exact List.length_pos_of_mem ((hA.mem _).2 ⟨0, a, b, oM, ha, hb, lineP_fst a b⟩)
 have := hA.le
 refine dw_cx rfl rfl rfl (x_sorted hA.nd hl0 oM _ _ _ _ _) ?_
 rintro _ S' _ ⟨rfl, hS, rfl⟩
 refine dw_keep (SubA.refl _) hS ?_
 repeat (first|refine dw_p rfl ?_|refine dw_nil ?_)
 refine ds_keep (SubA.cons (k := 2) rfl (SubA.nil _)) (SubA.cons (k := 6) rfl (SubA.nil _)) ?_
 have hfl := ptF_len (sortedP l)
 refine ds_frz 6 rfl okZ okZ ?_
 refine ds_ret ⟨_, rfl, rfl, ?_⟩
 have he : sortedP l = pointsF f := by
  rw [pointsF, if_neg h1, if_pos h2]
  exact sorted_eq fun p => by rw [hA.mem, alongL_mem]
 rw [he]
 rfl
set_option maxHeartbeats 4000000 in
theorem d_points3 {f : Ft} (hv : validF f = true) (h1 : ¬ f.kind = 1) (h2 : ¬ f.kind = 2) : DK 44 [ftD f] fun d => d = ptsD (pointsF f) := by
 obtain ⟨⟨hn1, hn2⟩, hin, hk⟩ := valid_pts hv
 have hsm : Smalls3 f.pts := fun p hp => in60_small (hin p hp)
 obtain ⟨a, ha⟩ : ∃ q, f.pts[0]? = some q := ⟨_, List.getElem?_eq_getElem oM⟩
 have e0 := ptF_at ha
 refine dfn_ok cp44 rfl GHro fun Z0 lo => ?_
 repeat (first|refine dw_p rfl ?_|refine dw_l rfl ?_|refine dw_a rfl ?_|refine dw_nil ?_|refine ds_seq ?_|refine ds_ops mix (fun base => ?_))
 refine dw_cf rfl rfl (d_valid oM) ?_
 rintro _ rfl
 rw [hv]
 repeat (first|refine dw_p rfl ?_|refine dw_nil ?_)
 refine ds_if rfl (fun ht => by cases ht) (fun _ => ?_)
 have b1 : (f.kind == 1) = false := by simpa using h1
 have b2 : (f.kind == 2) = false := by simpa using h2
 repeat (first|refine dw_pB rfl aM ?_|refine dw_p rfl ?_|refine dw_l rfl ?_|refine dw_nil ?_|refine ds_seq ?_|refine ds_ops mix (fun base => ?_)|refine ds_skip ?_|refine ds_block ?_)
 refine ds_if rfl (fun ht => by cases ht) (fun _ => ?_)
 repeat (first|refine dw_pB rfl aM ?_|refine dw_nil ?_|refine ds_seq ?_|refine ds_ops mix (fun base => ?_))
 refine ds_if rfl (fun ht => by cases ht) (fun _ => ?_)
 repeat (first|refine dw_p rfl ?_|refine dw_l rfl ?_|refine ds_seq ?_|refine ds_ops mix (fun base => ?_)|refine ds_skip ?_)
 refine dw_cfr rfl rfl (do_around hsm oM oM) ?_
 rintro _ _ _ ⟨l, hA, rfl, rfl, rfl⟩
 repeat (first|refine dw_p rfl ?_|refine dw_l rfl ?_|refine dw_lk rfl ?_|refine dw_if0 rfl rfl oM (by decide) aM ?_|refine dw_ai rfl rfl rfl ?_|refine dw_st rfl rfl rfl rfl rfl (Nat.le_of_ble_eq_true rfl) rfl ?_|refine dw_nil ?_|refine ds_seq ?_|refine ds_ops mix (fun base => ?_)|refine ds_block ?_)
 refine ds_loop (fun m E S nk => ∃ (i : Nat) (lo hi : Pt2), i + m = f.pts.length /\ in60 lo = true /\ in60 hi = true /\ (∀ (j : Nat) q, j < i -> f.pts[j]? = some q -> InBox lo hi q) /\ E = [(1, .one (.ptr 0 0)), (3, .one (.om 1)), (4, .one (.ptr 2 0)), (5, .one (.ptr 3 0)), (42, ptsD f.pts), (43, .int f.pts.length), (44, .int i)] /\ S = arS f l lo hi /\ nk = 4)
  ⟨f.pts.length, _, _, _, [], ?wk, 0, a, a, oM, hin a (List.mem_of_getElem? ha), hin a (List.mem_of_getElem? ha), fun j q hj => oM, rfl, rfl, rfl⟩ ?_
 case wk => exact wkA
 rintro m E S nk ⟨i, lo, hi, him, hlo, hhi, hbx, rfl, rfl, rfl⟩
 repeat (first|refine dw_p rfl ?_|refine dw_nil ?_|refine ds_seq ?_|refine ds_ops mix (fun base => ?_))
 refine ds_if rfl (fun ht2 => ?_) (fun ht2 => ?_)
 ·have ht2 : i < f.pts.length := by have := of_decide_eq_true ht2; omega
  obtain ⟨q, hq⟩ : ∃ q, f.pts[i]? = some q := ⟨_, List.getElem?_eq_getElem ht2⟩
  have e1 := ptF_at hq
  have hq60 := hin q (List.mem_of_getElem? hq)
  repeat (first|refine dw_max rfl rfl ?_|refine dw_min rfl rfl ?_|refine dw_p rfl ?_|refine dw_l rfl ?_|refine dw_if rfl rfl oM (by decide) aM ?_|refine dw_a rfl ?_|refine dw_st rfl rfl rfl rfl rfl (Nat.le_of_ble_eq_true rfl) rfl ?_|refine dw_nil ?_|refine ds_seq ?_|refine ds_ops mix (fun base => ?_)|refine ds_skip ?_|refine ds_block ?_)
  refine ⟨m - 1, oM, _, _, _, [], ?wk1, i + 1, (min lo.1 q.1, min lo.2 q.2), (max hi.1 q.1, max hi.2 q.2), oM, ?g1, ?g2, ?g3, rfl, rfl, rfl⟩
  case g1 => rw [in60_iff] at *; simp only; omega
  case g2 => rw [in60_iff] at *; simp only; omega
  case g3 =>
   intro j q' hj hq'
   by_cases hji : j = i
   ·subst hji
    rw [hq] at hq'
    obtain rfl := Option.some.inj hq'
    unfold InBox
    simp only
    omega
   ·have := hbx j q' oM hq'
    unfold InBox at *
    simp only
    omega
  case wk1 => exact wkA
 ·have ht2 : i = f.pts.length := by have := of_decide_eq_false ht2; omega
  subst ht2
  obtain ⟨k, hk4, hft⟩ : ∃ k : Nat, k < 4 /\ f.tex = k := by
   rw [kindOk, if_neg h1, if_neg h2] at hk
   by_cases h3 : f.kind = 3
   ·rw [if_pos h3] at hk
    simp at hk
    exact ⟨f.tex.toNat, oM, oM⟩
   ·rw [if_neg h3] at hk
    cases hk
  have hab := hbx 0 a oM ha
  rw [in60_iff] at hlo hhi
  have hle0 := hA.le
  have hfs := Fill.start (f := f) (l0 := l) (lo := lo) (hi := hi) hA.nd
  repeat (first|refine dw_p rfl ?_|refine dw_l rfl ?_|refine ds_seq ?_|refine ds_ops mix (fun base => ?_)|refine ds_exit ?_)
  refine dw_cf rfl rfl (d_textureI hft hk4) ?_
  rintro _ rfl
  repeat (first|refine dw_p rfl ?_|refine dw_l rfl ?_|refine dw_nil ?_|refine ds_seq ?_|refine ds_ops mix (fun base => ?_)|refine ds_block ?_)
  refine ds_loop (fun m E S nk => ∃ (y : Int) (l' : List Pt2), lo.2 <= y /\ y <= hi.2 + 1 /\ m = (hi.2 + 1 - y).toNat /\ Fill f l lo hi lo.1 y l' /\ E = [(1, .one (.ptr 0 0)), (3, .one (.om 1)), (4, .one (.ptr 2 0)), (5, .one (.ptr 3 0)), (8, fnK (texN k)), (9, .int y)] /\ S = arS f l' lo hi /\ nk = 4)
   ⟨_, _, _, _, [], ?wk2, lo.2, l, oM, by unfold InBox at hab; omega, rfl, hfs, rfl, rfl, rfl⟩ ?_
  case wk2 => exact wkA
  rintro m E S nk ⟨y, l1, hy1, hy2, rfl, hF1, rfl, rfl, rfl⟩
  repeat (first|refine dw_p rfl ?_|refine dw_l rfl ?_|refine dw_nil ?_|refine ds_seq ?_|refine ds_ops mix (fun base => ?_))
  refine ds_if rfl (fun hy3 => ?_) (fun hy3 => ?_)
  ·have hy3 := of_decide_eq_true hy3
   repeat (first|refine dw_p rfl ?_|refine dw_l rfl ?_|refine dw_nil ?_|refine ds_seq ?_|refine ds_ops mix (fun base => ?_)|refine ds_skip ?_|refine ds_block ?_)
   refine ds_loop (fun m E S nk => ∃ (x : Int) (l' : List Pt2), lo.1 <= x /\ x <= hi.1 + 1 /\ m = (hi.1 + 1 - x).toNat /\ Fill f l lo hi x y l' /\ E = [(1, .one (.ptr 0 0)), (3, .one (.om 1)), (4, .one (.ptr 2 0)), (5, .one (.ptr 3 0)), (8, fnK (texN k)), (9, .int y), (10, .int x)] /\ S = arS f l' lo hi /\ nk = 4)
    ⟨_, _, _, _, [], ?wk3, lo.1, l1, oM, by unfold InBox at hab; omega, rfl, hF1, rfl, rfl, rfl⟩ ?_
   case wk3 => exact wkA
   rintro m E S nk ⟨x, l2, hx1, hx2, rfl, hF2, rfl, rfl, rfl⟩
   repeat (first|refine dw_p rfl ?_|refine dw_l rfl ?_|refine dw_nil ?_|refine ds_seq ?_|refine ds_ops mix (fun base => ?_))
   refine ds_if rfl (fun hx3 => ?_) (fun hx3 => ?_)
   ·have hx3 := of_decide_eq_true hx3
    have hxs : Small 1000 (x, y) := by unfold Small; simp only; omega
    have hib : InBox lo hi (x, y) := by unfold InBox; simp only; omega
    repeat (first|refine dw_p rfl ?_|refine dw_l rfl ?_|refine dw_a rfl ?_|refine dw_st rfl rfl rfl rfl rfl (Nat.le_of_ble_eq_true rfl) rfl ?_|refine dw_nil ?_|refine ds_seq ?_|refine ds_ops mix (fun base => ?_)|refine ds_skip ?_|refine ds_block ?_)
    refine dw_cv0 rfl (isFn_tex hk4) rfl rfl (d_texK (p := (x, y)) hk4 hxs) ?_
    rintro _ rfl
    cases hb : texP f.tex (x, y) with
    | false =>
     rw [hft] at hb
     rw [hb]
     repeat (first|refine dw_skip rfl rfl ?_|refine dw_pickF rfl rfl ?_|refine dw_p rfl ?_|refine dw_nil ?_)
     refine ds_if rfl (fun ht => by cases ht) (fun _ => ?_)
     repeat (first|refine dw_p rfl ?_|refine dw_nil ?_|refine ds_ops mix (fun base => ?_)|refine ds_skip ?_)
     refine ⟨(hi.1 + 1 - (x + 1)).toNat, by omega, _, _, _, [], ?wk4, x + 1, l2, by omega, by omega, rfl, hF2.skip (by rw [hft, hb]; rfl), rfl, rfl, rfl⟩
     case wk4 => exact wkA
    | true =>
     rw [hft] at hb
     rw [hb]
     repeat (first|refine dw_want rfl rfl ?_|refine dw_p rfl ?_|refine dw_l rfl ?_)
     refine dw_cf rfl rfl (d_inside (p := (x, y)) hsm hxs oM) ?_
     rintro _ rfl
     repeat (first|refine dw_pickT rfl rfl ?_|refine dw_nil ?_)
     refine ds_if rfl (fun hi2 => ?_) (fun hi2 => ?_)
     ·have hi2 : inP f.pts (x, y) = true := by simpa using hi2
      repeat (first|refine dw_p rfl ?_|refine dw_l rfl ?_|refine ds_ops mix (fun base => ?_))
      refine dw_stupd rfl rfl rfl rfl (stUp_pt _ (x, y)) rfl ?_
      repeat (first|refine dw_p rfl ?_|refine dw_nil ?_|refine ds_ops mix (fun base => ?_))
      refine ⟨(hi.1 + 1 - (x + 1)).toNat, by omega, _, _, _, [], ?wk5, x + 1, putP l2 (x, y), by omega, by omega, rfl, hF2.put hib (by rw [hft, hb, hi2]; rfl), rfl, rfl, rfl⟩
      case wk5 => exact wkA
     ·have hi2 : inP f.pts (x, y) = false := by simpa using hi2
      repeat (first|refine dw_p rfl ?_|refine dw_nil ?_|refine ds_ops mix (fun base => ?_)|refine ds_skip ?_)
      refine ⟨(hi.1 + 1 - (x + 1)).toNat, by omega, _, _, _, [], ?wk6, x + 1, l2, by omega, by omega, rfl, hF2.skip (by rw [hft, hb, hi2]; rfl), rfl, rfl, rfl⟩
      case wk6 => exact wkA
   ·have hx3 := of_decide_eq_false hx3
    obtain rfl : x = hi.1 + 1 := by omega
    repeat (first|refine dw_p rfl ?_|refine dw_nil ?_|refine ds_ops mix (fun base => ?_)|refine ds_exit ?_)
    refine ⟨(hi.2 + 1 - (y + 1)).toNat, oM, _, _, _, [], ?wk7, y + 1, l2, oM, oM, rfl, hF2.row oM, rfl, rfl, rfl⟩
    case wk7 => exact wkA
  ·have hy3 := of_decide_eq_false hy3
   obtain rfl : y = hi.2 + 1 := by omega
   have hl1 := hF1.le
   have hl0 : 0 < l1.length := by
    obtain ⟨b, hb⟩ : ∃ q, f.pts[nxt f.pts 0]? = some q := ⟨_, List.getElem?_eq_getElem (nxt_lt oM)⟩
    exact List.length_pos_of_mem ((hF1.mem _).2 (.inl ((hA.mem _).2 ⟨0, a, b, ha, hb, lineP_fst a b⟩)))
   repeat (first|refine dw_p rfl ?_|refine ds_seq ?_|refine ds_ops mix (fun base => ?_)|refine ds_exit ?_)
   refine dw_wk (E0 := [(104, .one (.om 0))]) (S0 := [(0, mapB l1)]) (n0 := 1) [(0, 1)] ?hw ?_
   case hw => exact wkA
   refine dw_cx rfl rfl rfl (x_sorted hF1.nd hl0 oM _ _ _ _ _) ?_
   rintro _ S' _ ⟨rfl, hS, rfl⟩
   refine dw_keep (SubA.refl _) hS ?_
   repeat (first|refine dw_p rfl ?_|refine dw_nil ?_)
   refine ds_keep (SubA.cons (k := 2) rfl (SubA.nil _)) (SubA.cons (k := 6) rfl (SubA.nil _)) ?_
   have hfl := ptF_len (sortedP l1)
   refine ds_frz 6 rfl okZ okZ ?_
   refine ds_ret ⟨_, rfl, rfl, ?_⟩
   have he : sortedP l1 = pointsF f := by
    rw [pointsF, if_neg h1, if_neg h2]
    refine sorted_eq fun p => ?_
    rw [hF1.mem, hA.mem, List.mem_append, aroundL_mem, fillL, List.mem_filter, gridL_mem]
    constructor
    ·rintro (h|⟨h, _, h3⟩)
     ·exact .inl h
     ·refine .inr ⟨?_, h3⟩
      rw [in60_iff]
      unfold InBox at h
      omega
    ·rintro (h|⟨h, h3⟩)
     ·exact .inl h
     ·have hbp : InBox lo hi p := inP_box (L := f.pts) (fun q hq => by
       obtain ⟨j, hj⟩ := List.getElem?_of_mem hq
       exact hbx j q (List.getElem?_eq_some_iff.1 hj).1 hj) (by
       rw [Bool.and_eq_true] at h3
       exact h3.2)
      refine .inr ⟨hbp, ?_, h3⟩
      unfold InBox at hbp
      omega
   rw [he]
   rfl
theorem d_points {f : Ft} (hv : validF f = true) : DK 44 [ftD f] fun d => d = ptsD (pointsF f) := by
 by_cases h1 : f.kind = 1
 ·exact d_points1 hv h1
 ·by_cases h2 : f.kind = 2
  ·exact d_points2 hv h1 h2
  ·exact d_points3 hv h1 h2
def isRep : Nat -> List C -> Bool
 | 0, [] => true
 | n + 1, .bool false :: l => isRep n l
 | _, _ => false
theorem isRep_ok : ∀ {n : Nat} {l : List C}, isRep n l = true -> l = List.replicate n (.bool false)
 | 0, [], _ => rfl
 | 0, c :: l, h => by simp [isRep] at h
 | n + 1, [], h => by simp [isRep] at h
 | n + 1, c :: l, h => by
  cases c with
  | bool b =>
   cases b with
   | false =>
    have := isRep_ok (n := n) (l := l) h
    rw [this, List.replicate_succ]
   | true => simp [isRep] at h
  | _ => simp [isRep] at h
def bC (b : Bool) : DC := .f (.c (.bool b))
def arrB (A : List Bool) : Bk := .cells (A.map bC)
theorem rnB_arr (ρ : List (Nat × Nat)) (A : List Bool) : rnB ρ (arrB A) = arrB A := by
 simp only [rnB, arrB, rnL_map, List.map_map]
 congr 1
theorem allB_arr (n : Nat) : ∀ A : List Bool, allB (smC n) (A.map bC) = true
 | [] => rfl
 | b :: A => by rw [List.map_cons, allB, allB_arr n A]; rfl
theorem smB_arr (n : Nat) (A : List Bool) : smB n (arrB A) = true := allB_arr n A
theorem setLs_all' {α : Type} : ∀ (l pre X : List α), l.length = X.length -> setLs (pre ++ X) pre.length l = pre ++ l
 | [], pre, [], _ => rfl
 | [], _, _ :: _, h => by simp at h
 | _ :: _, _, [], h => by simp at h
 | c :: l, pre, x :: X, h => by
  rw [setLs]
  have : (pre ++ x :: X).set pre.length c = (pre ++ [c]) ++ X := by simp
  rw [this, show pre.length + 1 = (pre ++ [c]).length by simp, setLs_all' l (pre ++ [c]) X (by simpa using h)]
  simp
theorem setLs_all {α : Type} {l X : List α} (h : l.length = X.length) : setLs X 0 l = l := by simpa using setLs_all' l [] X h
theorem dw_arr {p : Par} {base rs : Nat} {Q : DEnv -> Bx -> Nat -> Prop} {r : List SOper} {A : List Nat} {E : DEnv} {i1 i2 i3 n : Nat} {z z' : List C} (hz : isRep n z = true) (hz' : isRep n z' = true)
  (h : DPW p base rs Q r [] A ((3, .one (.ptr 0 0)) :: (9, .agg ((List.replicate n (C.bool false)).map toC)) :: E) [(0, arrB (List.replicate n false))] 1) : DPW p base rs Q (⟨i1, some 9, .p (.build z []), none, none, [], false⟩ :: ⟨i2, some 3, .a (.alloc z'), none, none, [], false⟩ :: ⟨i3, none, .e (.store n (.t 3) (.t 9)), none, none, [], false⟩ :: r) [] A E [] 0 := by
 obtain rfl := isRep_ok hz
 obtain rfl := isRep_ok hz'
 refine dw_p (d := .agg ((List.replicate n (.bool false)).map toC)) rfl ?_
 refine dw_a (x := .cells ((List.replicate n (.bool false)).map toC)) rfl ?_
 refine dw_st (k := 0) (o := 0) rfl rfl rfl (by simp) rfl (by simp [Bk.len]) rfl ?_
 have e : stB (.cells ((List.replicate n (C.bool false)).map toC)) 0 ((List.replicate n (C.bool false)).map toC) = arrB (List.replicate n false) := by
  rw [stB, setLs_all rfl, arrB]
  simp [bC, toC]
 rw [<- e] at h
 exact h
theorem d_aaddr {E : DEnv} {x i : Opd} {k o len esz : Nat} {kd : IntKind} {j : Int} (hx : ro E x = some (.one (.ptr k o))) (hi : ro E i = some (.one (.f (.c (.int kd j))))) (h0 : 0 <= j) (h1 : j < len) : dPure E (.aaddr len esz x i) = some (.one (.ptr k (o + j.toNat * esz))) := by
 have e : idx j len = some j.toNat := by
  obtain ⟨n, rfl⟩ := Int.eq_ofNat_of_zero_le h0
  have : n < len := by omega
  show (match Nat.blt n len with|true => some n|false => none) = _
  rw [show Nat.blt n len = true by simpa using this]
  rfl
 simp only [dPure, hx, hi, e]
theorem dload_arr {p : Par} {E : DEnv} {S : Bx} {a : Opd} {k o : Nat} {A : List Bool} {b : Bool} (ha : ro E a = some (.one (.ptr k o))) (hk : lk S k = some (arrB A)) (hb : A[o]? = some b) : dLoad p E S false 1 a = some (.bool b) := by
 have h1 : o < A.length := (List.getElem?_eq_some_iff.1 hb).1
 have e : subL (A.map bC) o 1 = some [bC b] := by
  unfold subL
  rw [show Nat.ble (o + 1) (A.map bC).length = true by simp; omega]
  simp only [Option.some.injEq]
  rw [<- List.map_drop, List.drop_eq_getElem_cons h1]
  simp [(List.getElem?_eq_some_iff.1 hb).2]
 simp only [dLoad, ha, rdC, hk, arrB, e]
 rfl
theorem stB_arr (A : List Bool) (o : Nat) (b : Bool) : stB (arrB A) o [bC b] = arrB (A.set o b) := by
 rw [arrB, stB, setLs, setLs, arrB, List.map_set]
def linesN (L : List Pt2) (n : Nat) : List Pt2 := (List.range n).flatMap fun i => lineP (at0 L i) (at0 L (nxt L i))
theorem linesN_succ (L : List Pt2) (n : Nat) : linesN L (n + 1) = linesN L n ++ lineP (at0 L n) (at0 L (nxt L n)) := by
 simp [linesN, List.range_succ]
theorem linesN_le {L : List Pt2} (hl : Smalls3 L) : ∀ n, n <= L.length -> (linesN L n).length <= 2001 * n
 | 0, _ => by simp [linesN]
 | n + 1, h => by
  have h1 := linesN_le hl n oM
  have h2 := lineP_len_le (hl _ (at0_mem (i := n) oM)) (hl _ (at0_mem (nxt_lt (i := n) oM)))
  rw [linesN_succ, List.length_append]
  omega
theorem d_lines {L : List Pt2} {n : Nat} (hl : Smalls3 L) (hn : L.length < 100) (hnl : n <= L.length) : DK 38 [ptsD L, .int n] fun d => d = ptsD (linesN L n) := by
 refine dfn_ok cp38 rfl GHro fun Z0 lo => ?_
 repeat (first|refine dw_p rfl ?_|refine dw_a rfl ?_|refine dw_nil ?_|refine ds_seq ?_|refine ds_ops mix (fun base => ?_)|refine ds_block ?_)
 refine ds_loop (fun m E S nk => ∃ i : Nat, i + m = n /\ E = [(0, ptsD L), (1, .int n), (5, .one (.own 0 0 (linesN L i).length 2)), (6, .int i)] /\ S = [(0, .data ((linesN L i).flatMap ptF))] /\ nk = 1)
  ⟨n, _, _, _, [], ?wk, 0, oM, rfl, rfl, rfl⟩ ?_
 case wk => exact wkA
 rintro m E S nk ⟨i, hi, rfl, rfl, rfl⟩
 repeat (first|refine dw_p rfl ?_|refine dw_nil ?_|refine ds_seq ?_|refine ds_ops mix (fun base => ?_))
 refine ds_if rfl (fun ht => ?_) (fun ht => ?_)
 ·have ht : i < n := by have := of_decide_eq_true ht; omega
  have ha : L[i]? = some (at0 L i) := by rw [at0, List.getElem?_eq_getElem (by omega)]; rfl
  have hb : L[nxt L i]? = some (at0 L (nxt L i)) := by rw [at0, List.getElem?_eq_getElem (nxt_lt (by omega))]; rfl
  have hsa := hl _ (List.mem_of_getElem? ha)
  have hsb := hl _ (List.mem_of_getElem? hb)
  have h1 := linesN_le hl i oM
  have h2 := lineP_len_le hsa hsb
  have hfl := ptF_len (linesN L i)
  have hf2 := ptF_len (lineP (at0 L i) (at0 L (nxt L i)))
  repeat (first|refine dw_p rfl ?_|refine ds_seq ?_|refine ds_ops mix (fun base => ?_)|refine ds_skip ?_|refine ds_block ?_)
  refine dw_cf rfl rfl (d_side oM oM ha hb) ?_
  rintro _ rfl
  repeat (first|refine dw_p rfl ?_|refine dw_l rfl ?_|refine dw_a rfl ?_|refine dw_st rfl rfl rfl rfl rfl (Nat.le_of_ble_eq_true rfl) rfl ?_|refine dw_nil ?_|refine ds_ops mix (fun base => ?_))
  refine dw_cf rfl rfl (d_rline hsa hsb) ?_
  rintro _ rfl
  refine dw_app (m := (lineP (at0 L i) (at0 L (nxt L i))).length) (q := (lineP (at0 L i) (at0 L (nxt L i))).flatMap ptF) rfl rfl rfl (subL_all _ hfl) ⟨rfl, rfl, rfl⟩ oM oM (by decide) rfl ?_
  rw [<- List.flatMap_append, <- List.length_append, <- linesN_succ]
  repeat (first|refine dw_p rfl ?_|refine dw_nil ?_|refine ds_ops mix (fun base => ?_))
  refine ⟨m - 1, oM, _, _, _, [(0, 3)], ?wk1, i + 1, oM, rfl, rfl, rfl⟩
  case wk1 => exact wkA
 ·have ht : i = n := by have := of_decide_eq_false ht; omega
  subst ht
  have hfl := ptF_len (linesN L i)
  repeat (first|refine dw_p rfl ?_|refine dw_nil ?_|refine ds_seq ?_|refine ds_ops mix (fun base => ?_)|refine ds_exit ?_)
  refine ds_keep (SubA.cons (k := 4) rfl (SubA.nil _)) (SubA.cons (k := 0) rfl (SubA.nil _)) ?_
  refine ds_frz 0 rfl okZ okZ ?_
  exact ds_ret ⟨_, rfl, rfl, rfl⟩
def rowL (y n : Nat) : List Pt2 := (List.range n).map fun (x : Nat) => ((x : Int), (y : Int))
def gridN (y : Nat) : List Pt2 := (List.range y).flatMap fun (y : Nat) => rowL y 60
theorem rowL_succ (y n : Nat) : rowL y (n + 1) = rowL y n ++ [((n : Int), (y : Int))] := by simp [rowL, List.range_succ]
theorem gridN_succ (y : Nat) : gridN (y + 1) = gridN y ++ rowL y 60 := by simp [gridN, List.range_succ]
theorem rowL_len (y n : Nat) : (rowL y n).length = n := by simp [rowL]
theorem gridN_len : ∀ y : Nat, (gridN y).length = 60 * y
 | 0 => rfl
 | y + 1 => by rw [gridN_succ, List.length_append, gridN_len y, rowL_len]; omega
theorem gridN_all : gridN 60 = gridL := rfl
theorem rowL_rows (y : Nat) : ∀ n, ByRows (rowL y n)
 | 0 => List.Pairwise.nil
 | n + 1 => by
  rw [rowL_succ]
  refine List.pairwise_append.2 ⟨rowL_rows y n, by simp, fun a ha b hb => ?_⟩
  rw [List.mem_singleton] at hb
  subst hb
  simp only [rowL, List.mem_map, List.mem_range] at ha
  obtain ⟨x, hx, rfl⟩ := ha
  rw [before_iff]
  exact .inr ⟨rfl, show (x : Int) < (n : Int) by omega⟩
theorem gridN_rows : ∀ n, ByRows (gridN n)
 | 0 => List.Pairwise.nil
 | n + 1 => by
  rw [gridN_succ]
  refine List.pairwise_append.2 ⟨gridN_rows n, rowL_rows n 60, fun a ha b hb => ?_⟩
  simp only [gridN, rowL, List.mem_flatMap, List.mem_map, List.mem_range] at ha hb
  obtain ⟨y, hy, x, hx, rfl⟩ := ha
  obtain ⟨x', hx', rfl⟩ := hb
  rw [before_iff]
  simp only
  omega
theorem sortedP_grid {l : List Pt2} (h : ∀ p ∈ l, in60 p = true) : gridL.filter (fun p => decide (p ∈ l)) = sortedP l := by
 refine ByRows.ext ?_ (sortedP_rows l) fun p => ?_
 ·rw [<- gridN_all]
  exact (gridN_rows 60).filter _
 ·rw [List.mem_filter, gridL_mem, sortedP_mem]
  simp only [decide_eq_true_eq]
  exact ⟨fun h => h.2, fun hp => ⟨h p hp, hp⟩⟩
structure Marks (l : List Pt2) (A : List Bool) : Prop where
 len : A.length = 3600
 at_ : ∀ p, in60 p = true -> A[0 + p.2.toNat * 60 + p.1.toNat * 1]? = some (decide (p ∈ l))
theorem Marks.nil : Marks [] (List.replicate 3600 false) := ⟨by rw [List.length_replicate], fun p hp => by
 rw [in60_iff] at hp
 rw [List.getElem?_replicate, if_pos (by omega)]
 simp⟩
theorem Marks.snoc {l : List Pt2} {A : List Bool} {q : Pt2} (h : Marks l A) (hq : in60 q = true) : Marks (l ++ [q]) (A.set (0 + q.2.toNat * 60 + q.1.toNat * 1) true) := ⟨by rw [List.length_set]; exact h.len, fun p hp => by
 have hl := h.len
 have h1 := h.at_ p hp
 rw [in60_iff] at hp hq
 rw [List.getElem?_set]
 by_cases he : p = q
 ·subst he
  rw [if_pos rfl, if_pos (by omega), decide_eq_true (by simp)]
 ·have hne : ¬ (p.1 = q.1 /\ p.2 = q.2) := fun h => he (Prod.ext h.1 h.2)
  rw [if_neg (by omega), h1]
  simp [he]⟩
set_option maxRecDepth 100000 in
set_option maxHeartbeats 4000000 in
theorem d_rsorted13 {l : List Pt2} (hin : ∀ p ∈ l, in60 p = true) (hn : l.length < 1000000) : DK 37 [ptsD l] fun d => d = ptsD (sortedP l) := by
 refine dfn_ok cp37 rfl GHro fun Z0 lo => ?_
 refine ds_seq ?_
 refine ds_ops mix (fun base => ?_)
 refine dw_p rfl ?_
 refine dw_nil ?_
 refine ds_seq ?_
 refine ds_ops mix (fun base => ?_)
 refine dw_arr (by kernel_rfl) (by kernel_rfl) ?_
 repeat (first|refine dw_p rfl ?_|refine dw_nil ?_|refine ds_seq ?_|refine ds_ops mix (fun base => ?_)|refine ds_block ?_)
 refine ds_loop (fun m E S nk => ∃ (i : Nat) (A : List Bool), i + m = l.length /\ Marks (l.take i) A /\ E = [(0, ptsD l), (3, .one (.ptr 0 0)), (4, .int i)] /\ S = [(0, arrB A)] /\ nk = 1)
  ⟨l.length, _, _, _, [], ?wk, 0, _, oM, Marks.nil, rfl, rfl, rfl⟩ ?_
 case wk => exact ⟨(by repeat (first|exact trivial|refine ⟨by first|rfl|exact cgI (by omega) (by omega), rfl, ?_⟩)), ⟨by rw [rnB_arr]; rfl, smB_arr _ _, rfl, trivial⟩, rfl, rfl⟩
 rintro m E S nk ⟨i, A, hi, hM, rfl, rfl, rfl⟩
 repeat (first|refine dw_p rfl ?_|refine dw_nil ?_|refine ds_seq ?_|refine ds_ops mix (fun base => ?_))
 refine ds_if rfl (fun ht => ?_) (fun ht => ?_)
 ·have ht : i < l.length := by have := of_decide_eq_true ht; omega
  obtain ⟨q, hq⟩ : ∃ q, l[i]? = some q := ⟨_, List.getElem?_eq_getElem ht⟩
  have e1 := ptF_at hq
  have hq6 := hin q (List.mem_of_getElem? hq)
  have hq60 := in60_iff.1 hq6
  have b1 : decide (q.1 >= 0) = true := decide_eq_true hq60.1.1
  have b2 : decide (q.2 >= 0) = true := decide_eq_true hq60.2.1
  have b3 : decide (q.1 < 60) = true := decide_eq_true hq60.1.2
  have b4 : decide (q.2 < 60) = true := decide_eq_true hq60.2.2
  repeat (first|refine dw_want rfl rfl ?_|refine dw_pickT rfl rfl ?_|refine dw_pB rfl aM ?_|refine dw_p rfl ?_|refine dw_l rfl ?_|refine dw_if rfl rfl oM (by decide) aM ?_|refine dw_a rfl ?_|refine dw_st rfl rfl rfl rfl rfl (Nat.le_of_ble_eq_true rfl) rfl ?_|refine dw_nil ?_|refine ds_seq ?_|refine ds_ops mix (fun base => ?_)|refine ds_skip ?_|refine ds_block ?_)
  refine ds_if rfl (fun _ => ?_) (fun ht => by cases ht)
  repeat (first|refine dw_p rfl ?_|refine dw_l rfl ?_|refine ds_ops mix (fun base => ?_))
  refine dw_p (d_aaddr rfl rfl hq60.2.1 hq60.2.2) ?_
  skip
  refine dw_p (d_aaddr rfl rfl hq60.1.1 hq60.1.2) ?_
  have hlen : 0 + q.2.toNat * 60 + q.1.toNat * 1 + 1 <= (arrB A).len := by
   simp only [arrB, Bk.len, List.length_map, hM.len]
   omega
  refine dw_st rfl rfl rfl rfl rfl hlen rfl ?_
  refine dw_nil ?_
  have hM2 : Marks (l.take (i + 1)) (A.set (0 + q.2.toNat * 60 + q.1.toNat * 1) true) := by
   rw [List.take_add_one, hq]
   exact hM.snoc hq6
  refine ds_keep (E0 := [(0, ptsD l), (3, .one (.ptr 0 0)), (4, .int i)]) (S0 := [(0, arrB (A.set (0 + q.2.toNat * 60 + q.1.toNat * 1) true))]) (SubA.cons rfl (SubA.cons rfl (SubA.cons rfl (SubA.nil _)))) (SubA.cons (congrArg some (stB_arr A _ true)) (SubA.nil _)) ?_
  repeat (first|refine dw_p rfl ?_|refine dw_nil ?_|refine ds_ops mix (fun base => ?_))
  refine ⟨m - 1, oM, _, _, _, [], ?wk1, i + 1, _, oM, hM2, rfl, rfl, rfl⟩
  case wk1 => exact ⟨(by repeat (first|exact trivial|refine ⟨by first|rfl|exact cgI (by omega) (by omega), rfl, ?_⟩)), ⟨by rw [rnB_arr]; rfl, smB_arr _ _, rfl, trivial⟩, rfl, rfl⟩
 ·have ht : i = l.length := by have := of_decide_eq_false ht; omega
  subst ht
  rw [List.take_length] at hM
  repeat (first|refine dw_p rfl ?_|refine dw_a rfl ?_|refine dw_nil ?_|refine ds_seq ?_|refine ds_ops mix (fun base => ?_)|refine ds_block ?_|refine ds_exit ?_)
  refine ds_loop (fun m E S nk => ∃ (y : Nat) (out : List Pt2), y + m = 60 /\ out = (gridN y).filter (fun p => decide (p ∈ l)) /\ E = [(3, .one (.ptr 0 0)), (6, .one (.own 1 0 out.length 2)), (7, .int y)] /\ S = [(0, arrB A), (1, .data (out.flatMap ptF))] /\ nk = 2)
   ⟨60, _, _, _, [], ?wk2, 0, [], rfl, rfl, rfl, rfl, rfl⟩ ?_
  case wk2 => exact ⟨(by repeat (first|exact trivial|refine ⟨by first|rfl|exact cgI (by omega) (by omega), rfl, ?_⟩)), ⟨by rw [rnB_arr]; rfl, smB_arr _ _, rfl, rfl, rfl, rfl, trivial⟩, rfl, rfl⟩
  rintro m E S nk ⟨y, out, hy, ho, rfl, rfl, rfl⟩
  repeat (first|refine dw_p rfl ?_|refine dw_nil ?_|refine ds_seq ?_|refine ds_ops mix (fun base => ?_))
  refine ds_if rfl (fun hy2 => ?_) (fun hy2 => ?_)
  ·have hy2 : y < 60 := by have := of_decide_eq_true hy2; omega
   repeat (first|refine dw_p rfl ?_|refine dw_nil ?_|refine ds_seq ?_|refine ds_ops mix (fun base => ?_)|refine ds_skip ?_|refine ds_block ?_)
   refine ds_loop (fun m E S nk => ∃ (x : Nat) (out : List Pt2), x + m = 60 /\ out = (gridN y ++ rowL y x).filter (fun p => decide (p ∈ l)) /\ E = [(3, .one (.ptr 0 0)), (6, .one (.own 1 0 out.length 2)), (7, .int y), (8, .int x)] /\ S = [(0, arrB A), (1, .data (out.flatMap ptF))] /\ nk = 2)
    ⟨60, _, _, _, [], ?wk3, 0, out, rfl, by rw [ho]; simp [rowL], rfl, rfl, rfl⟩ ?_
   case wk3 => exact ⟨(by repeat (first|exact trivial|refine ⟨by first|rfl|exact cgI (by omega) (by omega), rfl, ?_⟩)), ⟨by rw [rnB_arr]; rfl, smB_arr _ _, rfl, rfl, rfl, rfl, trivial⟩, rfl, rfl⟩
   rintro m2 E S nk ⟨x, out2, hx, ho2, rfl, rfl, rfl⟩
   repeat (first|refine dw_p rfl ?_|refine dw_nil ?_|refine ds_seq ?_|refine ds_ops mix (fun base => ?_))
   refine ds_if rfl (fun hx2 => ?_) (fun hx2 => ?_)
   ·have hx2 : x < 60 := by have := of_decide_eq_true hx2; omega
    have hp := hM.at_ ((x : Int), (y : Int)) (by rw [in60_iff]; simp only; omega)
    have hle : out2.length <= 3600 := by
     have h1 : out2.length <= (gridN y ++ rowL y x).length := by rw [ho2]; exact List.length_filter_le _ _
     have h2 : (gridN y ++ rowL y x).length = 60 * y + x := by rw [List.length_append, gridN_len, rowL_len]
     omega
    have hfl := ptF_len out2
    repeat (first|refine dw_p rfl ?_|refine ds_seq ?_|refine ds_ops mix (fun base => ?_)|refine ds_skip ?_|refine ds_block ?_)
    refine dw_p (d_aaddr rfl rfl (Int.natCast_nonneg _) oM) ?_
    skip
    refine dw_p (d_aaddr rfl rfl (Int.natCast_nonneg _) oM) ?_
    refine dw_l (dload_arr rfl rfl hp) ?_
    repeat (first|refine dw_nil ?_)
    refine ds_if rfl (fun hb => ?_) (fun hb => ?_)
    ·have hb : decide (((x : Int), (y : Int)) ∈ l) = true := hb
     repeat (first|refine dw_p rfl ?_|refine dw_a rfl ?_|refine ds_ops mix (fun base => ?_))
     refine dw_app (m := 1) (q := ptF ((x : Int), (y : Int))) rfl rfl rfl (subL_all _ hfl) ⟨rfl, rfl, _, rfl, rfl⟩ oM oM (by decide) rfl ?_
     have h3 : (gridN y ++ rowL y (x + 1)).filter (fun p => decide (p ∈ l)) = out2 ++ [((x : Int), (y : Int))] := by rw [rowL_succ, <- List.append_assoc, List.filter_append, <- ho2]; simp [of_decide_eq_true hb]
     rw [show out2.flatMap ptF ++ ptF ((x : Int), (y : Int)) = (out2 ++ [((x : Int), (y : Int))]).flatMap ptF by simp, show out2.length + 1 = (out2 ++ [((x : Int), (y : Int))]).length by simp]
     repeat (first|refine dw_p rfl ?_|refine dw_nil ?_|refine ds_ops mix (fun base => ?_))
     refine ⟨m2 - 1, oM, _, _, _, [(1, 3)], ?wk6, x + 1, out2 ++ [((x : Int), (y : Int))], oM, h3.symm, rfl, rfl, rfl⟩
     case wk6 => exact ⟨(by repeat (first|exact trivial|refine ⟨by first|rfl|exact cgI (by omega) (by omega), rfl, ?_⟩)), ⟨by rw [rnB_arr]; rfl, smB_arr _ _, rfl, rfl, rfl, rfl, trivial⟩, rfl, rfl⟩
    ·have hb : decide (((x : Int), (y : Int)) ∈ l) = false := hb
     repeat (first|refine dw_p rfl ?_|refine dw_nil ?_|refine ds_ops mix (fun base => ?_)|refine ds_skip ?_)
     refine ⟨m2 - 1, by omega, _, _, _, [], ?wk4, x + 1, out2, by omega, by rw [rowL_succ, <- List.append_assoc, List.filter_append, <- ho2]; simp [hb], rfl, rfl, rfl⟩
     case wk4 => exact ⟨(by repeat (first|exact trivial|refine ⟨by first|rfl|exact cgI (by omega) (by omega), rfl, ?_⟩)), ⟨by rw [rnB_arr]; rfl, smB_arr _ _, rfl, rfl, rfl, rfl, trivial⟩, rfl, rfl⟩
   ·have hx2 : x = 60 := by have := of_decide_eq_false hx2; omega
    subst hx2
    repeat (first|refine dw_p rfl ?_|refine dw_nil ?_|refine ds_ops mix (fun base => ?_)|refine ds_exit ?_)
    refine ⟨m - 1, by omega, _, _, _, [], ?wk5, y + 1, out2, by omega, by rw [gridN_succ]; exact ho2, rfl, rfl, rfl⟩
    case wk5 => exact ⟨(by repeat (first|exact trivial|refine ⟨by first|rfl|exact cgI (by omega) (by omega), rfl, ?_⟩)), ⟨by rw [rnB_arr]; rfl, smB_arr _ _, rfl, rfl, rfl, rfl, trivial⟩, rfl, rfl⟩
  ·have hy2 : y = 60 := by have := of_decide_eq_false hy2; omega
   subst hy2
   repeat (first|refine dw_p rfl ?_|refine dw_nil ?_|refine ds_seq ?_|refine ds_ops mix (fun base => ?_)|refine ds_exit ?_)
   have he : out = sortedP l := by rw [ho, gridN_all]; exact sortedP_grid hin
   have hfl := ptF_len out
   refine ds_keep (SubA.cons (k := 2) rfl (SubA.nil _)) (SubA.cons (k := 1) rfl (SubA.nil _)) ?_
   refine ds_frz 1 rfl okZ okZ ?_
   refine ds_ret ⟨_, rfl, rfl, ?_⟩
   rw [<- he]
   rfl
theorem do_lines {L : List Pt2} {n : Nat} (hl : Smalls3 L) (hn : L.length < 100) (hnl : n <= L.length) : DKO 38 [ptsD L, .int n] fun d S nk => d = .one (.own 0 0 (linesN L n).length 2) /\ S = [(0, .data ((linesN L n).flatMap ptF))] /\ nk = 1 := by
 refine dfnO_ok cp38 rfl GHro fun Z0 lo => ?_
 repeat (first|refine dw_p rfl ?_|refine dw_a rfl ?_|refine dw_nil ?_|refine ds_seq ?_|refine ds_ops mix (fun base => ?_)|refine ds_block ?_)
 refine ds_loop (fun m E S nk => ∃ i : Nat, i + m = n /\ E = [(0, ptsD L), (1, .int n), (5, .one (.own 0 0 (linesN L i).length 2)), (6, .int i)] /\ S = [(0, .data ((linesN L i).flatMap ptF))] /\ nk = 1)
  ⟨n, _, _, _, [], ?wk, 0, oM, rfl, rfl, rfl⟩ ?_
 case wk => exact wkA
 rintro m E S nk ⟨i, hi, rfl, rfl, rfl⟩
 repeat (first|refine dw_p rfl ?_|refine dw_nil ?_|refine ds_seq ?_|refine ds_ops mix (fun base => ?_))
 refine ds_if rfl (fun ht => ?_) (fun ht => ?_)
 ·have ht : i < n := by have := of_decide_eq_true ht; omega
  have ha : L[i]? = some (at0 L i) := by rw [at0, List.getElem?_eq_getElem (by omega)]; rfl
  have hb : L[nxt L i]? = some (at0 L (nxt L i)) := by rw [at0, List.getElem?_eq_getElem (nxt_lt (by omega))]; rfl
  have hsa := hl _ (List.mem_of_getElem? ha)
  have hsb := hl _ (List.mem_of_getElem? hb)
  have h1 := linesN_le hl i oM
  have h2 := lineP_len_le hsa hsb
  have hfl := ptF_len (linesN L i)
  have hf2 := ptF_len (lineP (at0 L i) (at0 L (nxt L i)))
  repeat (first|refine dw_p rfl ?_|refine ds_seq ?_|refine ds_ops mix (fun base => ?_)|refine ds_skip ?_|refine ds_block ?_)
  refine dw_cf rfl rfl (d_side oM oM ha hb) ?_
  rintro _ rfl
  repeat (first|refine dw_p rfl ?_|refine dw_l rfl ?_|refine dw_a rfl ?_|refine dw_st rfl rfl rfl rfl rfl (Nat.le_of_ble_eq_true rfl) rfl ?_|refine dw_nil ?_|refine ds_ops mix (fun base => ?_))
  refine dw_cf rfl rfl (d_rline hsa hsb) ?_
  rintro _ rfl
  refine dw_app (m := (lineP (at0 L i) (at0 L (nxt L i))).length) (q := (lineP (at0 L i) (at0 L (nxt L i))).flatMap ptF) rfl rfl rfl (subL_all _ hfl) ⟨rfl, rfl, rfl⟩ oM oM (by decide) rfl ?_
  rw [<- List.flatMap_append, <- List.length_append, <- linesN_succ]
  repeat (first|refine dw_p rfl ?_|refine dw_nil ?_|refine ds_ops mix (fun base => ?_))
  refine ⟨m - 1, oM, _, _, _, [(0, 3)], ?wk1, i + 1, oM, rfl, rfl, rfl⟩
  case wk1 => exact wkA
 ·have ht : i = n := by have := of_decide_eq_false ht; omega
  subst ht
  have hfl := ptF_len (linesN L i)
  repeat (first|refine dw_p rfl ?_|refine dw_nil ?_|refine ds_seq ?_|refine ds_ops mix (fun base => ?_)|refine ds_exit ?_)
  exact ds_ret ⟨_, rfl, rfl, _, SubA.refl _, rfl, rfl, rfl⟩
theorem lineP_in60 {a b p : Pt2} (ha : in60 a = true) (hb : in60 b = true) (h : p ∈ lineP a b) : in60 p = true := by
 obtain ⟨k, hk⟩ := List.getElem?_of_mem h
 have h1 := (List.getElem?_eq_some_iff.1 hk).1
 rw [lineP_len] at h1
 have hf := far_abs a b
 have h2 : (k : Int) <= far a b := by omega
 rw [lineP_at a b h2] at hk
 obtain rfl := Option.some.inj hk
 have h3 := lineAt_in a b h2
 rw [in60_iff] at *
 omega
theorem linesN_in60 {L : List Pt2} (hL : ∀ p ∈ L, in60 p = true) {n : Nat} (hn : n <= L.length) {p : Pt2} (h : p ∈ linesN L n) : in60 p = true := by
 simp only [linesN, List.mem_flatMap, List.mem_range] at h
 obtain ⟨i, hi, hp⟩ := h
 exact lineP_in60 (hL _ (at0_mem oM)) (hL _ (at0_mem (nxt_lt oM))) hp
theorem d_rtexI {t : Int} {k : Nat} {p : Pt2} (ht : t = k) (hk : k < 4) (hp : Small 1000 p) : DK 39 [.int t, ptD p] fun d => d = .bool (texP t p) := by rw [ht]; exact d_rtex hk hp
set_option maxHeartbeats 4000000 in
theorem d_rpoints {f : Ft} (hv : validF f = true) : DK 19 [ftD f] fun d => d = ptsD (pointsF f) := by
 obtain ⟨⟨hn1, hn2⟩, hin, hk⟩ := valid_pts hv
 have hsm : Smalls3 f.pts := fun p hp => in60_small (hin p hp)
 refine dfn_ok cp19 rfl GHro fun Z0 lo => ?_
 by_cases h1 : f.kind = 1
 ·have b1 : (f.kind == 1) = true := by simpa using h1
  repeat (first|refine dw_pB rfl aM ?_|refine dw_p rfl ?_|refine dw_l rfl ?_|refine dw_a rfl ?_|refine dw_nil ?_|refine ds_seq ?_|refine ds_ops mix (fun base => ?_)|refine ds_block ?_)
  refine ds_if rfl (fun _ => ?_) (fun ht => by cases ht)
  repeat (first|refine dw_p rfl ?_|refine dw_l rfl ?_|refine dw_nil ?_|refine ds_seq ?_|refine ds_ops mix (fun base => ?_))
  refine ds_ret ⟨_, rfl, rfl, ?_⟩
  rw [pointsF, if_pos h1]
  rfl
 ·have b1 : (f.kind == 1) = false := by simpa using h1
  by_cases h2 : f.kind = 2
  ·have b2 : (f.kind == 2) = true := by simpa using h2
   have hw : IntKind.i64.wrap ((f.pts.length : Int) - 1) = ((f.pts.length - 1 : Nat) : Int) := by rw [dwrap (by omega) (by omega)]; omega
   have hll := linesN_le hsm (f.pts.length - 1) oM
   repeat (first|refine dw_pB rfl aM ?_|refine dw_p rfl ?_|refine dw_l rfl ?_|refine dw_a rfl ?_|refine dw_nil ?_|refine ds_seq ?_|refine ds_ops mix (fun base => ?_)|refine ds_block ?_)
   refine ds_if rfl (fun ht => by cases ht) (fun _ => ?_)
   repeat (first|refine dw_pB rfl aM ?_|refine dw_p rfl ?_|refine dw_nil ?_|refine ds_seq ?_|refine ds_ops mix (fun base => ?_))
   refine ds_if rfl (fun _ => ?_) (fun ht => by cases ht)
   repeat (first|refine dw_p rfl ?_|refine dw_l rfl ?_|refine ds_seq ?_|refine ds_ops mix (fun base => ?_))
   rw [hw]
   refine dw_cf rfl rfl (d_lines hsm oM oM) ?_
   rintro _ rfl
   refine dw_cf rfl rfl (d_rsorted13 (fun p hp => linesN_in60 hin oM hp) oM) ?_
   rintro _ rfl
   repeat (first|refine dw_p rfl ?_|refine dw_nil ?_)
   refine ds_ret ⟨_, rfl, rfl, ?_⟩
   rw [pointsF, if_neg h1, if_pos h2]
   rfl
  ·have b2 : (f.kind == 2) = false := by simpa using h2
   obtain ⟨k, hk4, hft⟩ : ∃ k : Nat, k < 4 /\ f.tex = k := by
    rw [kindOk, if_neg h1, if_neg h2] at hk
    by_cases h3 : f.kind = 3
    ·rw [if_pos h3] at hk
     simp at hk
     exact ⟨f.tex.toNat, oM, oM⟩
    ·rw [if_neg h3] at hk
     cases hk
   have hll := linesN_le hsm f.pts.length oM
   repeat (first|refine dw_pB rfl aM ?_|refine dw_p rfl ?_|refine dw_l rfl ?_|refine dw_a rfl ?_|refine dw_nil ?_|refine ds_seq ?_|refine ds_ops mix (fun base => ?_)|refine ds_block ?_)
   refine ds_if rfl (fun ht => by cases ht) (fun _ => ?_)
   repeat (first|refine dw_pB rfl aM ?_|refine dw_nil ?_|refine ds_seq ?_|refine ds_ops mix (fun base => ?_))
   refine ds_if rfl (fun ht => by cases ht) (fun _ => ?_)
   repeat (first|refine dw_p rfl ?_|refine dw_l rfl ?_|refine ds_seq ?_|refine ds_ops mix (fun base => ?_)|refine ds_skip ?_)
   refine dw_cfr rfl rfl (do_lines hsm oM oM) ?_
   rintro _ _ _ ⟨rfl, rfl, rfl⟩
   refine dw_p rfl ?_
   repeat (first|refine dw_p rfl ?_|refine dw_nil ?_|refine ds_seq ?_|refine ds_ops mix (fun base => ?_)|refine ds_block ?_)
   refine ds_loop (fun m E S nk => ∃ (y : Nat) (out : List Pt2), y + m = 60 /\ out = linesN f.pts f.pts.length ++ (gridN y).filter (fun p => texP f.tex p && inP f.pts p) /\ E = [(1, .one (.ptr 0 0)), (3, .one (.own 1 0 out.length 2)), (4, .int y)] /\ S = [(0, .cells [.f (.c (.int .i64 f.kind)), .f (.c (.int .i64 f.tex)), .f (.sl 2 f.pts.length (f.pts.flatMap ptF))]), (1, .data (out.flatMap ptF))] /\ nk = 2)
    ⟨60, _, _, _, [], ?wk2, 0, linesN f.pts f.pts.length, rfl, by simp [gridN], rfl, rfl, rfl⟩ ?_
   case wk2 => exact wkA
   rintro m E S nk ⟨y, out, hy, ho, rfl, rfl, rfl⟩
   repeat (first|refine dw_p rfl ?_|refine dw_nil ?_|refine ds_seq ?_|refine ds_ops mix (fun base => ?_))
   refine ds_if rfl (fun hy2 => ?_) (fun hy2 => ?_)
   ·have hy2 : y < 60 := by have := of_decide_eq_true hy2; omega
    repeat (first|refine dw_p rfl ?_|refine dw_nil ?_|refine ds_seq ?_|refine ds_ops mix (fun base => ?_)|refine ds_skip ?_|refine ds_block ?_)
    refine ds_loop (fun m E S nk => ∃ (x : Nat) (out : List Pt2), x + m = 60 /\ out = linesN f.pts f.pts.length ++ (gridN y ++ rowL y x).filter (fun p => texP f.tex p && inP f.pts p) /\ E = [(1, .one (.ptr 0 0)), (3, .one (.own 1 0 out.length 2)), (4, .int y), (5, .int x)] /\ S = [(0, .cells [.f (.c (.int .i64 f.kind)), .f (.c (.int .i64 f.tex)), .f (.sl 2 f.pts.length (f.pts.flatMap ptF))]), (1, .data (out.flatMap ptF))] /\ nk = 2)
     ⟨60, _, _, _, [], ?wk3, 0, out, rfl, by rw [ho]; simp [rowL], rfl, rfl, rfl⟩ ?_
    case wk3 => exact wkA
    rintro m2 E S nk ⟨x, out2, hx, ho2, rfl, rfl, rfl⟩
    repeat (first|refine dw_p rfl ?_|refine dw_nil ?_|refine ds_seq ?_|refine ds_ops mix (fun base => ?_))
    refine ds_if rfl (fun hx2 => ?_) (fun hx2 => ?_)
    ·have hx2 : x < 60 := by have := of_decide_eq_true hx2; omega
     have hxs : Small 1000 ((x : Int), (y : Int)) := by unfold Small; simp only; omega
     have hle : out2.length <= 100000 := by
      have h1 : ((gridN y ++ rowL y x).filter (fun p => texP f.tex p && inP f.pts p)).length <= (gridN y ++ rowL y x).length := List.length_filter_le _ _
      have h2 : (gridN y ++ rowL y x).length = 60 * y + x := by rw [List.length_append, gridN_len, rowL_len]
      rw [ho2, List.length_append]
      omega
     have hfl := ptF_len out2
     have hstep : linesN f.pts f.pts.length ++ (gridN y ++ rowL y (x + 1)).filter (fun p => texP f.tex p && inP f.pts p) = out2 ++ (if (texP f.tex ((x : Int), (y : Int)) && inP f.pts ((x : Int), (y : Int))) = true then [((x : Int), (y : Int))] else []) := by
      rw [rowL_succ, <- List.append_assoc, List.filter_append, <- List.append_assoc, <- ho2]
      congr 1
      rw [List.filter_cons, List.filter_nil]
     repeat (first|refine dw_p rfl ?_|refine dw_l rfl ?_|refine dw_a rfl ?_|refine dw_st rfl rfl rfl rfl rfl (Nat.le_of_ble_eq_true rfl) rfl ?_|refine dw_nil ?_|refine ds_seq ?_|refine ds_ops mix (fun base => ?_)|refine ds_skip ?_|refine ds_block ?_)
     refine dw_cf rfl rfl (d_rtexI hft hk4 hxs) ?_
     rintro _ rfl
     cases hb : texP f.tex ((x : Int), (y : Int)) with
     | false =>
      rw [hb, Bool.false_and, if_neg (by decide), List.append_nil] at hstep
      repeat (first|refine dw_skip rfl rfl ?_|refine dw_pickF rfl rfl ?_|refine dw_p rfl ?_|refine dw_nil ?_)
      refine ds_if rfl (fun ht => by cases ht) (fun _ => ?_)
      repeat (first|refine dw_p rfl ?_|refine dw_nil ?_|refine ds_ops mix (fun base => ?_)|refine ds_skip ?_)
      refine ⟨m2 - 1, oM, _, _, _, [], ?wk4, x + 1, out2, oM, hstep.symm, rfl, rfl, rfl⟩
      case wk4 => exact wkA
     | true =>
      rw [hb, Bool.true_and] at hstep
      repeat (first|refine dw_want rfl rfl ?_|refine dw_p rfl ?_|refine dw_l rfl ?_)
      refine dw_cf rfl rfl (d_rinside (p := ((x : Int), (y : Int))) hsm hxs oM) ?_
      rintro _ rfl
      repeat (first|refine dw_pickT rfl rfl ?_|refine dw_nil ?_)
      refine ds_if rfl (fun hi2 => ?_) (fun hi2 => ?_)
      ·have hi2 : inP f.pts ((x : Int), (y : Int)) = true := by simpa using hi2
       rw [hi2, if_pos rfl] at hstep
       repeat (first|refine dw_p rfl ?_|refine dw_l rfl ?_|refine dw_a rfl ?_|refine ds_ops mix (fun base => ?_))
       refine dw_app (m := 1) (q := ptF ((x : Int), (y : Int))) rfl rfl rfl (subL_all _ hfl) ⟨rfl, rfl, _, rfl, rfl⟩ oM oM (by decide) rfl ?_
       rw [show out2.flatMap ptF ++ ptF ((x : Int), (y : Int)) = (out2 ++ [((x : Int), (y : Int))]).flatMap ptF by simp, show out2.length + 1 = (out2 ++ [((x : Int), (y : Int))]).length by simp]
       repeat (first|refine dw_p rfl ?_|refine dw_nil ?_|refine ds_ops mix (fun base => ?_))
       refine ⟨m2 - 1, oM, _, _, _, [(1, 4)], ?wk6, x + 1, out2 ++ [((x : Int), (y : Int))], oM, hstep.symm, rfl, rfl, rfl⟩
       case wk6 => exact wkA
      ·have hi2 : inP f.pts ((x : Int), (y : Int)) = false := by simpa using hi2
       rw [hi2, if_neg (by decide), List.append_nil] at hstep
       repeat (first|refine dw_p rfl ?_|refine dw_nil ?_|refine ds_ops mix (fun base => ?_)|refine ds_skip ?_)
       refine ⟨m2 - 1, oM, _, _, _, [], ?wk7, x + 1, out2, oM, hstep.symm, rfl, rfl, rfl⟩
       case wk7 => exact wkA
    ·have hx2 : x = 60 := by have := of_decide_eq_false hx2; omega
     subst hx2
     repeat (first|refine dw_p rfl ?_|refine dw_nil ?_|refine ds_ops mix (fun base => ?_)|refine ds_exit ?_)
     refine ⟨m - 1, by omega, _, _, _, [], ?wk5, y + 1, out2, by omega, by rw [gridN_succ]; exact ho2, rfl, rfl, rfl⟩
     case wk5 => exact wkA
   ·have hy2 : y = 60 := by have := of_decide_eq_false hy2; omega
    subst hy2
    have hfl := ptF_len out
    have hout : out = aroundL f.pts ++ fillL f := ho
    have hin2 : ∀ p ∈ out, in60 p = true := fun p hp => by
     rw [hout, List.mem_append] at hp
     rcases hp with hp|hp
     ·exact linesN_in60 hin (Nat.le_refl _) hp
     ·exact gridL_mem.1 (List.mem_filter.1 hp).1
    have hol : out.length < 1000000 := by
     have h1 : ((gridN 60).filter (fun p => texP f.tex p && inP f.pts p)).length <= (gridN 60).length := List.length_filter_le _ _
     rw [gridN_len] at h1
     rw [ho, List.length_append]
     omega
    repeat (first|refine dw_p rfl ?_|refine ds_seq ?_|refine ds_ops mix (fun base => ?_)|refine ds_exit ?_)
    refine dw_keep (E0 := [(54, .one (.own 1 0 out.length 2))]) (S0 := [(1, .data (out.flatMap ptF))]) (SubA.cons rfl (SubA.nil _)) (SubA.cons rfl (SubA.nil _)) ?_
    refine dw_frz 1 rfl okZ okZ ?_
    refine dw_cf (ds := [ptsD out]) rfl rfl (d_rsorted13 hin2 hol) ?_
    rintro _ rfl
    repeat (first|refine dw_p rfl ?_|refine dw_nil ?_)
    refine ds_ret ⟨_, rfl, rfl, ?_⟩
    rw [pointsF, if_neg h1, if_neg h2, <- hout]
    rfl
end Go.Ad
