/- Contracts of functions of the program over the abstract semantics. -/
import Derived.Test.YtbjkifniloohcaaGreatDoorAb10
set_option linter.unusedVariables false
set_option linter.unusedSimpArgs false
namespace Go.Ae
open Go.Ab Go.Proofs
set_option linter.unusedSimpArgs false
def picF (p : Pic) : List FD := [.c (.int .i64 p.w), .c (.int .i64 p.h), .c (.int .i64 p.gap), .sl 3 p.fs.length (p.fs.flatMap ftF)]
def rowPt (l : List Pt2) : FD := .sl 2 l.length (l.flatMap ptF)
theorem rnB_site (ρ : List (Nat × Nat)) (p : Pic) (d : DC) (A : List Bool) : rnB ρ (.cells (siteC p d A)) = .cells (siteC p (rnC ρ d) A) := by
 have e : List.map (rnC ρ) (A.map bC) = A.map bC := by
  rw [List.map_map]
  congr 1
 simp only [rnB, siteC, picC, rnL_map, List.cons_append, List.nil_append, List.map_cons, e]
 rfl
theorem smB_site {n : Nat} {p : Pic} {d : DC} {A : List Bool} (h : smC n d = true) : smB n (.cells (siteC p d A)) = true := by
 have e : ∀ x, smC n (.f x) = true := fun _ => rfl
 simp only [smB, siteC, picC, List.cons_append, List.nil_append, allB, e, h, allB_arr]
theorem fzB_site {k n e : Nat} {l : List FD} {p : Pic} {A : List Bool} : fzB k l (.cells (siteC p (.own k 0 n e) A)) = .cells (siteC p (.f (.sl e n l)) A) := by
 have e1 : List.map (fzC k l) (A.map bC) = A.map bC := by
  rw [List.map_map]
  congr 1
 simp only [fzB, siteC, picC, List.cons_append, List.nil_append, List.map_cons, e1, fzC, beq_self]
theorem okL_arr {k : Nat} {ok : Nat -> Nat -> Nat -> Prop} : ∀ A : List Bool, okL k ok (A.map bC)
 | [] => trivial
 | _ :: A => ⟨trivial, okL_arr A⟩
theorem okB_site {k n : Nat} {l : List FD} {p : Pic} {A : List Bool} (h : l.length = n * 1) : okB k (okW l) (.cells (siteC p (.own k 0 n 1) A)) := by
 refine ⟨trivial, trivial, trivial, trivial, ?_, okL_arr A⟩
 simp only [okC, beq_self]
 exact ⟨rfl, h⟩
theorem stB_site4 (p : Pic) (d d' : DC) (A : List Bool) : stB (.cells (siteC p d A)) 4 [d'] = .cells (siteC p d' A) := rfl
theorem stB_siteA (p : Pic) (d : DC) (A : List Bool) (n : Nat) (b : Bool) : stB (.cells (siteC p d A)) (5 + n) [bC b] = .cells (siteC p d (A.set n b)) := by
 rw [stB, setLs, setLs, siteC_set]
theorem len_site (p : Pic) (d : DC) (A : List Bool) : (Bk.cells (siteC p d A)).len = A.length + 5 := by
 simp [Bk.len, siteC, picC]
theorem dw_site {par : Par} {base rs : Nat} {Q : DEnv -> Bx -> Nat -> Prop} {r : List SOper} {A : List Nat} {E : DEnv} {S : Bx} {nk i1 i2 n : Nat} {p : Pic} {z : List C} (hz : isRep n z = true) (hl : lk E 11 = some (picD p))
  (h : DPW par base rs Q r [] A ((13, .one (.ptr nk 0)) :: (12, .agg (siteC p (.f (.c .nils)) (List.replicate n false))) :: E) ((nk, .cells (siteC p (.f (.c .nils)) (List.replicate n false))) :: S) (nk + 1)) :
  DPW par base rs Q (⟨i1, some 12, .p (.build (.int .i64 0 :: .int .i64 0 :: .int .i64 0 :: .nils :: .nils :: z) [(0, 4, .t 11)]), none, none, [], false⟩ :: ⟨i2, some 13, .a (.box (.t 12)), none, none, [], false⟩ :: r) [] A E S nk := by
 obtain rfl := isRep_ok hz
 have e1 : (List.replicate n (C.bool false)).map toC = (List.replicate n false).map bC := by
  simp only [List.map_replicate]
  rfl
 refine dw_p (d := .agg (siteC p (.f (.c .nils)) (List.replicate n false))) ?_ (dw_a (x := .cells (siteC p (.f (.c .nils)) (List.replicate n false))) rfl h)
 have hro : ro E (.t 11) = some (picD p) := hl
 have hc : cellsD (picD p) = some (picC p) := rfl
 have hle : ∀ l : List DC, Nat.ble (0 + 4) (l.length + 1 + 1 + 1 + 1 + 1) = true := fun l => by simp
 simp only [dPure, fillD, List.map_cons, hro, hc, List.length_cons, hle, e1]
 rfl
set_option maxHeartbeats 8000000 in
theorem d_survey {p : Pic} (hv : validPic p = true) : DK 33 [picD p] fun d => ∃ A, SiteOk p A /\ d = siteV p A := by
 refine dfn_ok cp33 rfl GHro fun Z0 lo => ?_
 have hh := (validPic_fs hv).2.2.1
 simp only [headOk, Bool.and_eq_true, decide_eq_true_eq] at hh
 obtain ⟨⟨⟨hw1, hw2⟩, _⟩, ⟨hh1, hh2⟩, _⟩ := hh
 have hgap : 2 <= p.gap /\ p.gap <= 6 := by
  have := (validPic_fs hv).2.2.2
  simp only [gapOk, Bool.and_eq_true, decide_eq_true_eq] at this
  exact this.1
 have hl8 := (validPic_fs hv).1
 have hpl : (ptsOf p).length = p.fs.length := by simp [ptsOf]
 refine ds_seq ?_
 refine ds_ops mix (fun base => ?_)
 refine dw_a rfl ?_
 refine dw_p rfl ?_
 refine dw_nil ?_
 refine ds_frzP 0 (fs := picF p) rfl ?_
 refine ds_seq ?_
 refine ds_ops mix (fun base => ?_)
 refine dw_l (d := picD p) rfl ?_
 refine dw_site (n := 3600) (by kernel_rfl) rfl ?_
 refine dw_p rfl ?_
 refine dw_nil ?_
 refine ds_keep (SubA.cons (k := 1) rfl (SubA.cons (k := 3) rfl (SubA.nil _))) (SubA.cons (k := 1) rfl (SubA.nil _)) ?_
 refine goD ?_; intros
 refine ds_virtC 1 4 1 (l := siteC p (.f (.c .nils)) (List.replicate 3600 false)) rfl rfl ?_
 refine ds_loop (fun m E S nk => ∃ (i : Nat) (A : List Bool), i + m = p.fs.length /\ TkP A (nearL p ((ptsOf p).take i).flatten) /\ E = [(1, .one (.fptr (picF p))), (3, .one (.ptr 1 0)), (15, .one (.f (.sl 3 p.fs.length (p.fs.flatMap ftF)))), (16, .int p.fs.length), (17, .int i)] /\ S = [(1, .cells (siteC p (.own 2 0 i 1) A)), (2, .data (((ptsOf p).take i).map rowPt))] /\ nk = 3)
  ⟨p.fs.length, _, _, _, [], ?wk, 0, List.replicate 3600 false, by omega, TkP.none.congr fun _ _ _ _ => by simp [nearL], rfl, rfl, rfl⟩ ?_
 case wk => exact ⟨(by repeat (first|exact trivial|refine ⟨by first|rfl|exact cgI (by omega) (by omega), rfl, ?_⟩)), ⟨by rw [rnB_site]; rfl, smB_site rfl, rfl, rfl, rfl, rfl, trivial⟩, rfl, rfl⟩
 rintro m E S nk ⟨i, A, hi, hA, rfl, rfl, rfl⟩
 refine goD ?_; intros
 refine ds_if rfl (fun hi2 => ?_) (fun hi2 => ?_)
 ·have hi2 : i < p.fs.length := by have := of_decide_eq_true hi2; omega
  obtain ⟨f, hf⟩ : ∃ f, p.fs[i]? = some f := ⟨_, List.getElem?_eq_getElem hi2⟩
  have e1 := ftF_at hf
  have hvf := validPic_v hv f (List.mem_of_getElem? hf)
  have hcp := d_points hvf
  have hpi : (ptsOf p)[i]? = some (pointsF f) := by simp [ptsOf, hf]
  have hin := pointsF_in60 hvf
  have hln := pointsF_len hvf
  generalize pointsF f = l at hcp hpi hin hln
  have htk : (ptsOf p).take (i + 1) = (ptsOf p).take i ++ [l] := by rw [List.take_add_one, hpi]; rfl
  have htm : ((ptsOf p).take (i + 1)).map rowPt = ((ptsOf p).take i).map rowPt ++ [rowPt l] := by rw [htk, List.map_append]; rfl
  have htf : ((ptsOf p).take (i + 1)).flatten = ((ptsOf p).take i).flatten ++ l := by rw [htk]; simp
  have hrl : (((ptsOf p).take i).map rowPt).length = i * 1 := by rw [List.length_map, List.length_take]; omega
  clear htk
  generalize ((ptsOf p).take i).map rowPt = rows at htm hrl
  generalize ((ptsOf p).take i).flatten = D at htf hA
  refine goD ?_; intros
  refine dw_cf rfl rfl hcp ?_
  rintro _ rfl
  refine goD ?_; intros
  refine dw_app (m := 1) (q := [rowPt l]) rfl rfl rfl (subL_all _ hrl) ⟨rfl, rfl, _, rfl, rfl⟩ oM oM (by decide) rfl ?_
  refine dw_p rfl ?_
  refine dw_p rfl ?_
  refine dw_st (k := 1) (o := 4) rfl rfl rfl rfl rfl (by rw [len_site]; omega) rfl ?_
  rw [stB_site4]
  refine goD ?_; intros
  have hrl2 : (rows ++ [rowPt l]).length = (i + 1) * 1 := by rw [List.length_append, List.length_singleton]; omega
  refine ds_loop (fun m E S nk => ∃ (j : Nat) (A : List Bool), j + m = l.length /\ TkP A (nearL p (D ++ l.take j)) /\ E = [(1, .one (.fptr (picF p))), (3, .one (.ptr 1 0)), (15, .one (.f (.sl 3 p.fs.length (p.fs.flatMap ftF)))), (16, .int p.fs.length), (17, .int i), (33, ptsD l), (34, .int l.length), (35, .int j)] /\ S = [(1, .cells (siteC p (.own 2 0 (i + 1) 1) A)), (2, .data (rows ++ [rowPt l]))] /\ nk = 3)
   ⟨l.length, _, _, _, [(2, 5)], ?wk2, 0, A, by omega, by rw [List.take_zero, List.append_nil]; exact hA, rfl, rfl, rfl⟩ ?_
  case wk2 => exact ⟨(by repeat (first|exact trivial|refine ⟨by first|rfl|exact cgI (by omega) (by omega), rfl, ?_⟩)), ⟨by rw [rnB_site]; rfl, smB_site rfl, rfl, rfl, rfl, rfl, trivial⟩, rfl, rfl⟩
  clear hA A
  rintro m2 E S nk ⟨j, A, hj, hA, rfl, rfl, rfl⟩
  refine goD ?_; intros
  refine ds_if rfl (fun hj2 => ?_) (fun hj2 => ?_)
  ·have hj2 : j < l.length := by have := of_decide_eq_true hj2; omega
   obtain ⟨q, hq⟩ : ∃ q, l[j]? = some q := ⟨_, List.getElem?_eq_getElem hj2⟩
   have e2 := ptF_at hq
   have hq6 := hin q (List.mem_of_getElem? hq)
   rw [in60_iff] at hq6
   have hqs : D ++ l.take (j + 1) = (D ++ l.take j) ++ [q] := by rw [List.take_add_one, hq, List.append_assoc]; rfl
   generalize D ++ l.take j = L at hA hqs
   have w1 : IntKind.i64.wrap (q.2 - p.gap) = q.2 - p.gap := dwrap oM oM
   have w2 : IntKind.i64.wrap (q.2 + p.gap) = q.2 + p.gap := dwrap oM oM
   have w3 : IntKind.i64.wrap (q.1 - p.gap) = q.1 - p.gap := dwrap oM oM
   have w4 : IntKind.i64.wrap (q.1 + p.gap) = q.1 + p.gap := dwrap oM oM
   have w5 : IntKind.i64.wrap (p.h - 1) = p.h - 1 := dwrap oM oM
   have w6 : IntKind.i64.wrap (p.w - 1) = p.w - 1 := dwrap oM oM
   obtain ⟨y0, hy0⟩ : ∃ y0 : Nat, max 0 (q.2 - p.gap) = (y0 : Int) := ⟨(max 0 (q.2 - p.gap)).toNat, oM⟩
   obtain ⟨x0, hx0⟩ : ∃ x0 : Nat, max 0 (q.1 - p.gap) = (x0 : Int) := ⟨(max 0 (q.1 - p.gap)).toNat, oM⟩
   refine goD ?_; intros
   rw [w1, hy0]
   refine ds_frzP 3 (fs := ptF q) rfl ?_
   refine ds_loop (fun m E S nk => ∃ (y : Nat) (A : List Bool), y + m = 60 /\ y0 <= y /\ TkP A (mkY p L q y) /\ E = [(1, .one (.fptr (picF p))), (3, .one (.ptr 1 0)), (15, .one (.f (.sl 3 p.fs.length (p.fs.flatMap ftF)))), (16, .int p.fs.length), (17, .int i), (33, ptsD l), (34, .int l.length), (35, .int j), (8, .one (.fptr (ptF q))), (9, .int y)] /\ S = [(1, .cells (siteC p (.own 2 0 (i + 1) 1) A)), (2, .data (rows ++ [rowPt l]))] /\ nk = 3)
    ⟨60 - y0, _, _, _, [], ?wk3, y0, A, by omega, Nat.le_refl _, by rw [<- hy0]; exact hA.congr fun _ _ _ _ => mkY_start, rfl, rfl, rfl⟩ ?_
   case wk3 => exact ⟨(by repeat (first|exact trivial|refine ⟨by first|rfl|exact cgI (by omega) (by omega), rfl, ?_⟩)), ⟨by rw [rnB_site]; rfl, smB_site rfl, rfl, rfl, rfl, rfl, trivial⟩, rfl, rfl⟩
   clear hA A
   rintro m3 E S nk ⟨y, A, hym, hy1, hA, rfl, rfl, rfl⟩
   refine goD ?_; intros
   refine ds_if rfl (fun hy2 => ?_) (fun hy2 => ?_)
   ·have hy2 := of_decide_eq_true hy2
    rw [w5, w2] at hy2
    have hyw : IntKind.i64.wrap ((y : Int) + 1) = ((y + 1 : Nat) : Int) := by rw [dwrap (by omega) (by omega)]; omega
    refine goD ?_; intros
    rw [w3, hx0]
    refine ds_loop (fun m E S nk => ∃ (x : Nat) (A : List Bool), x + m = 60 /\ x0 <= x /\ TkP A (mkX p L q y x) /\ E = [(1, .one (.fptr (picF p))), (3, .one (.ptr 1 0)), (15, .one (.f (.sl 3 p.fs.length (p.fs.flatMap ftF)))), (16, .int p.fs.length), (17, .int i), (33, ptsD l), (34, .int l.length), (35, .int j), (8, .one (.fptr (ptF q))), (9, .int y), (10, .int x)] /\ S = [(1, .cells (siteC p (.own 2 0 (i + 1) 1) A)), (2, .data (rows ++ [rowPt l]))] /\ nk = 3)
     ⟨60 - x0, _, _, _, [], ?wk4, x0, A, by omega, Nat.le_refl _, by rw [<- hx0]; exact hA.congr fun _ _ _ _ => mkX_start, rfl, rfl, rfl⟩ ?_
    case wk4 => exact ⟨(by repeat (first|exact trivial|refine ⟨by first|rfl|exact cgI (by omega) (by omega), rfl, ?_⟩)), ⟨by rw [rnB_site]; rfl, smB_site rfl, rfl, rfl, rfl, rfl, trivial⟩, rfl, rfl⟩
    clear hA A
    rintro m4 E S nk ⟨x, A, hxm, hx1, hA, rfl, rfl, rfl⟩
    refine goD ?_; intros
    refine ds_if rfl (fun hx2 => ?_) (fun hx2 => ?_)
    ·have hx2 := of_decide_eq_true hx2
     rw [w6, w4] at hx2
     refine goD ?_; intros
     refine dw_p (d_aaddr rfl rfl oM oM) ?_
     refine dw_p (d_aaddr rfl rfl oM oM) ?_
     rw [show 0 + 5 + (y : Int).toNat * 60 + (x : Int).toNat * 1 = 5 + (y * 60 + x) by omega]
     refine dw_st (k := 1) (o := 5 + (y * 60 + x)) (l := [bC true]) rfl rfl rfl rfl rfl (by rw [len_site, hA.1]; omega) rfl ?_
     rw [stB_siteA]
     have hset := (hA.set (y := y) (x := x) oM oM).congr (Q := mkX p L q y ((x + 1 : Nat) : Int)) fun j i _ _ => by
      rw [mkX_step (by omega) (by omega) (by omega) (by omega)]
      rfl
     refine goD ?_; intros
     refine ⟨m4 - 1, oM, _, _, _, [], ?wk5, x + 1, _, oM, oM, hset, rfl, rfl, rfl⟩
     case wk5 => exact ⟨(by repeat (first|exact trivial|refine ⟨by first|rfl|exact cgI (by omega) (by omega), rfl, ?_⟩)), ⟨by rw [rnB_site]; rfl, smB_site rfl, rfl, rfl, rfl, rfl, trivial⟩, rfl, rfl⟩
    ·have hx2 := of_decide_eq_false hx2
     rw [w6, w4] at hx2
     refine goD ?_; intros
     refine ⟨m3 - 1, oM, _, _, _, [], ?wk6, y + 1, A, oM, oM, hA.congr fun _ _ _ _ => (mkX_end hx2).trans (by rfl), rfl, rfl, rfl⟩
     case wk6 => exact ⟨(by repeat (first|exact trivial|refine ⟨by first|rfl|exact cgI (by omega) (by omega), rfl, ?_⟩)), ⟨by rw [rnB_site]; rfl, smB_site rfl, rfl, rfl, rfl, rfl, trivial⟩, rfl, rfl⟩
   ·have hy2 := of_decide_eq_false hy2
    rw [w5, w2] at hy2
    refine goD ?_; intros
    refine ⟨m2 - 1, by omega, _, _, _, [], ?wk7, j + 1, A, by omega, by rw [hqs]; exact hA.congr fun _ _ _ _ => mkY_end hy2, rfl, rfl, rfl⟩
    case wk7 => exact ⟨(by repeat (first|exact trivial|refine ⟨by first|rfl|exact cgI (by omega) (by omega), rfl, ?_⟩)), ⟨by rw [rnB_site]; rfl, smB_site rfl, rfl, rfl, rfl, rfl, trivial⟩, rfl, rfl⟩
  ·have hj2 : j = l.length := by have := of_decide_eq_false hj2; omega
   subst hj2
   rw [List.take_length, <- htf] at hA
   refine goD ?_; intros
   refine ⟨m - 1, by omega, _, _, _, [], ?wk8, i + 1, A, by omega, hA, rfl, by rw [htm], rfl⟩
   case wk8 => exact ⟨(by repeat (first|exact trivial|refine ⟨by first|rfl|exact cgI (by omega) (by omega), rfl, ?_⟩)), ⟨by rw [rnB_site]; rfl, smB_site rfl, rfl, rfl, rfl, rfl, trivial⟩, rfl, rfl⟩
 ·have hi2 : i = p.fs.length := by have := of_decide_eq_false hi2; omega
  subst hi2
  have htl : (ptsOf p).take p.fs.length = ptsOf p := by rw [<- hpl, List.take_length]
  rw [htl] at hA ⊢
  have hml : ((ptsOf p).map rowPt).length = p.fs.length * 1 := by rw [List.length_map]; omega
  refine ds_frz 2 (m := (ptsOf p).map rowPt) rfl ⟨trivial, trivial, trivial, trivial, trivial, trivial, trivial⟩ ⟨okB_site hml, trivial, trivial⟩ ?_
  rw [show mapS (fzB 2 ((ptsOf p).map rowPt)) (era 2 [(1, Bk.cells (siteC p (.own 2 0 p.fs.length 1) A)), (2, Bk.data ((ptsOf p).map rowPt))]) = [(1, Bk.cells (siteC p (.f (.sl 1 p.fs.length ((ptsOf p).map rowPt))) A))] by
   show [(1, fzB 2 ((ptsOf p).map rowPt) (.cells (siteC p (.own 2 0 p.fs.length 1) A)))] = _
   rw [fzB_site]]
  refine ds_frzP 1 (fs := siteF p p.fs.length ((ptsOf p).map rowPt) A) (congrArg (fun l => some (Bk.cells l)) (siteF_C ..)) ?_
  refine goD ?_; intros
  refine ds_ret ⟨_, rfl, rfl, A, hA, ?_⟩
  rw [siteV, hpl]
  rfl
def Few (p : Pic) : Prop := ∀ f ∈ p.fs, validF f = true -> (pointsF f).length <= 256
theorem d_clash {p : Pic} {A : List Bool} {i k : Nat} {a b : Pt2} (hi : i < 8) (hk : k < 8) (ha : Small 1000000 a) (hb : Small 1000000 b) : DK 35 [siteV p A, .int i, ptD a, .int k, ptD b] fun d => d = .bool (clashP p.gap i a k b) := by
 refine dfn_ok cp35 rfl GHro fun Z0 lo => ?_
 have n1 := lblP_len i a
 have n2 := lblP_len k b
 refine goD ?_; intros
 refine dw_cf rfl rfl (d_lpoints hi ha) ?_
 rintro _ rfl
 refine dw_cf rfl rfl (d_lpoints hk hb) ?_
 rintro _ rfl
 refine dw_cf rfl rfl (d_distance (lblP_small ha) (lblP_small hb) oM oM) ?_
 rintro _ rfl
 refine goD ?_; intros
 exact ds_ret ⟨_, rfl, rfl, rfl⟩
theorem d_aaddrF {E : DEnv} {x i : Opd} {len esz : Nat} {kd : IntKind} {j : Int} {l : List FD} (hx : ro E x = some (.one (.fptr l))) (hi : ro E i = some (.one (.f (.c (.int kd j))))) (h0 : 0 <= j) (h1 : j < len) : dPure E (.aaddr len esz x i) = some (.one (.fptr (l.drop (j.toNat * esz)))) := by
 have e : idx j len = some j.toNat := by
  obtain ⟨n, rfl⟩ := Int.eq_ofNat_of_zero_le h0
  have : n < len := by omega
  show (match Nat.blt n len with|true => some n|false => none) = _
  rw [show Nat.blt n len = true by simpa using this]
  rfl
 simp only [dPure, hx, hi, e]
theorem dload_fp {p : Par} {E : DEnv} {S : Bx} {a : Opd} {l : List FD} {x : FD} (ha : ro E a = some (.one (.fptr l))) (hl : l[0]? = some x) : dLoad p E S false 1 a = some (.one (.f x)) := by
 cases l with
 | nil => simp at hl
 | cons y l =>
  simp at hl
  subst hl
  have e : subL (y :: l) 0 1 = some [y] := by
   rw [subL_of (by simp)]
   simp
  simp only [dLoad, ha, rdC, e]
  rfl
theorem site_at (p : Pic) (n : Nat) (rows : List FD) {A : List Bool} {y x : Nat} {b : Bool} (h : A[y * 60 + x]? = some b) : ((((siteF p n rows A).drop 5).drop (y * 60)).drop (x * 1))[0]? = some (.c (.bool b)) := by
 have e : (siteF p n rows A).drop 5 = A.map bF := rfl
 rw [e, List.drop_drop, List.getElem?_drop, List.getElem?_map, show y * 60 + x * 1 + 0 = y * 60 + x by omega, h]
 rfl
theorem rowPt_at {all : List (List Pt2)} {i : Nat} {l : List Pt2} (h : all[i]? = some l) : subL (all.map rowPt) (i * 1) 1 = some [rowPt l] := by
 have := subL_flat (f := fun l : List Pt2 => [rowPt l]) (e := 1) (fun _ => rfl) h
 rw [<- List.map_eq_flatMap] at this
 exact this
theorem near_far {p : Pic} (hv : validPic p = true) {i : Nat} {q r : Pt2} (hr : r ∈ lblP i q) (hx : 0 <= r.1) (hy : 0 <= r.2) (hn : nearL p (ptsOf p).flatten r.2.toNat r.1.toNat) : (ptsOf p).all (farL p.gap (lblP i q)) = false := by
 obtain ⟨s, hs, _, _, hf⟩ := hn
 obtain ⟨l, hl, hsl⟩ := List.mem_flatten.1 hs
 rw [show ((r.1.toNat : Nat) : Int) = r.1 by omega, show ((r.2.toNat : Nat) : Int) = r.2 by omega] at hf
 have hd : dist (lblP i q) l <= p.gap := (dist_le (lblP_ne i q) (ptsOf_ne hv l hl)).2 ⟨r, hr, s, hsl, by
  unfold far at hf ⊢
  simp only at hf
  omega⟩
 rw [List.all_eq_false]
 exact ⟨l, hl, by rw [farL, decide_eq_true hd]; decide⟩
theorem not_near_far {p : Pic} (hv : validPic p = true) {i : Nat} {q : Pt2} (hin : ∀ r ∈ lblP i q, (0 <= r.1 /\ r.1 < p.w) /\ 0 <= r.2 /\ r.2 < p.h) (hn : ∀ r ∈ lblP i q, ¬ nearL p (ptsOf p).flatten r.2.toNat r.1.toNat) : (ptsOf p).all (farL p.gap (lblP i q)) = true := by
 rw [List.all_eq_true]
 intro l hl
 by_cases hd : dist (lblP i q) l <= p.gap
 ·obtain ⟨r, hr, s, hs, hf⟩ := (dist_le (lblP_ne i q) (ptsOf_ne hv l hl)).1 hd
  have h1 := hin r hr
  refine absurd ⟨s, List.mem_flatten.2 ⟨l, hl, hs⟩, ?_, ?_, ?_⟩ (hn r hr)
  ·omega
  ·omega
  ·rw [show ((r.1.toNat : Nat) : Int) = r.1 by omega, show ((r.2.toNat : Nat) : Int) = r.2 by omega]
   unfold far at hf ⊢
   simp only
   omega
 ·rw [farL, decide_eq_false hd]; rfl
set_option maxHeartbeats 8000000 in
theorem d_free {p : Pic} {A : List Bool} {i : Nat} {q : Pt2} (hv : validPic p = true) (hF : Few p) (hA : SiteOk p A) (hi : i < p.fs.length) (hq : Small 1000000 q) : DK 34 [siteV p A, .int i, ptD q] fun d => d = .bool (fitsP p i q) := by
 refine dfn_ok cp34 rfl GHro fun Z0 lo => ?_
 have hh := (validPic_fs hv).2.2.1
 simp only [headOk, Bool.and_eq_true, decide_eq_true_eq] at hh
 obtain ⟨⟨⟨hw1, hw2⟩, hw3⟩, ⟨hh1, hh2⟩, hh3⟩ := hh
 rw [Int.tmod_eq_emod_of_nonneg (by omega)] at hw3 hh3
 have hgap : 2 <= p.gap /\ p.gap <= 6 := by
  have := (validPic_fs hv).2.2.2
  simp only [gapOk, Bool.and_eq_true, decide_eq_true_eq] at this
  exact this.1
 have hl8 := (validPic_fs hv).1
 have hpl : (ptsOf p).length = p.fs.length := by simp [ptsOf]
 have hds := lblP_small (i := i) hq
 have hdl := lblP_len i q
 have w1 : IntKind.i64.wrap (p.w.tdiv 2) = p.w / 2 := by rw [Int.tdiv_eq_ediv_of_nonneg (by omega), dwrap (by omega) (by omega)]
 have w2 : IntKind.i64.wrap (p.h.tdiv 3) = p.h / 3 := by rw [Int.tdiv_eq_ediv_of_nonneg (by omega), dwrap (by omega) (by omega)]
 have w3 : IntKind.i64.wrap (p.w / 2 - 2) = p.w / 2 - 2 := dwrap oM oM
 have w4 : IntKind.i64.wrap (p.h / 3 - 1) = p.h / 3 - 1 := dwrap oM oM
 have w5 : IntKind.i64.wrap (3 * p.gap) = 3 * p.gap := dwrap oM oM
 refine goD ?_; intros
 refine ds_if rfl (fun ht => ?_) (fun ht => ?_)
 ·rw [itOr, itOr, itOr, w1, w2, w3, w4] at ht
  simp only [Bool.or_eq_true, decide_eq_true_eq] at ht
  refine goD ?_; intros
  refine ds_ret ⟨_, rfl, rfl, ?_⟩
  have : fitsH p q = false := by
   rw [Bool.eq_false_iff]
   intro h2
   simp only [fitsH, Bool.and_eq_true, decide_eq_true_eq] at h2
   omega
  rw [fitsP, this, Bool.false_and]
 ·rw [itOr, itOr, itOr, w1, w2, w3, w4] at ht
  simp only [Bool.or_eq_false_iff, decide_eq_false_iff_not] at ht
  have hfh : fitsH p q = true := by simp only [fitsH, Bool.and_eq_true, decide_eq_true_eq]; omega
  have hin := lblP_in (p := p) (i := i) (q := q) oM oM oM
  obtain ⟨l, hl⟩ : ∃ l, (ptsOf p)[i]? = some l := ⟨_, List.getElem?_eq_getElem oM⟩
  have hlf : l.length <= 256 := by
   obtain ⟨f, hf, rfl⟩ := List.mem_map.1 (List.mem_of_getElem? hl)
   exact hF f hf (validPic_v hv f hf)
  have hls := smalls60 (ptsOf_small hv l (List.mem_of_getElem? hl)).1
  have hfit : fitsP p i q = ((ptsOf p).all (farL p.gap (lblP i q)) && decide (dist (lblP i q) l <= 3 * p.gap)) := by
   rw [fitsP, hfh, Bool.true_and, hl]
   rfl
  rw [hfit]
  have e3 := rowPt_at hl
  refine goD ?_; intros
  refine dw_cf rfl rfl (d_lpoints (i := i) oM hq) ?_
  rintro _ rfl
  refine goD ?_; intros
  refine ds_loop (fun m E S nk => ∃ j : Nat, j + m = (lblP i q).length /\ (∀ (k : Nat) r, k < j -> (lblP i q)[k]? = some r -> ¬ nearL p (ptsOf p).flatten r.2.toNat r.1.toNat) /\ E = [(0, siteV p A), (1, .int i), (7, ptsD (lblP i q)), (45, ptsD (lblP i q)), (46, .int (lblP i q).length), (47, .int j)] /\ S = [] /\ nk = 0)
   ⟨(lblP i q).length, _, _, _, [], ?wk, 0, oM, fun k r hk => oM, rfl, rfl, rfl⟩ ?_
  case wk => exact wkA
  rintro m E S nk ⟨j, hj, hok, rfl, rfl, rfl⟩
  refine goD ?_; intros
  refine ds_if rfl (fun hj2 => ?_) (fun hj2 => ?_)
  ·have hj2 : j < (lblP i q).length := by have := of_decide_eq_true hj2; omega
   obtain ⟨r, hr⟩ : ∃ r, (lblP i q)[j]? = some r := ⟨_, List.getElem?_eq_getElem hj2⟩
   have e1 := ptF_at hr
   have hrm := List.mem_of_getElem? hr
   have hri := hin r hrm
   obtain ⟨b, hb, hbn⟩ := hA.at (y := r.2.toNat) (x := r.1.toNat) oM oM
   have e2 := site_at p (ptsOf p).length ((ptsOf p).map rowPt) hb
   refine goD ?_; intros
   refine dw_p (d_aaddrF rfl rfl oM oM) ?_
   refine dw_p (d_aaddrF rfl rfl oM oM) ?_
   refine dw_l (dload_fp rfl e2) ?_
   refine goD ?_; intros
   refine ds_if rfl (fun hbt => ?_) (fun hbt => ?_)
   ·refine goD ?_; intros
    refine ds_ret ⟨_, rfl, rfl, ?_⟩
    rw [near_far hv hrm hri.1.1 hri.2.1 (hbn.1 hbt), Bool.false_and]
   ·refine goD ?_; intros
    refine ⟨m - 1, oM, _, _, _, [], ?wk2, j + 1, oM, fun k r' hk hr' => ?_, rfl, rfl, rfl⟩
    case wk2 => exact wkA
    by_cases hkj : k = j
    ·subst hkj
     rw [hr] at hr'
     obtain rfl := Option.some.inj hr'
     exact fun h => by rw [hbn.2 h] at hbt; cases hbt
    ·exact hok k r' oM hr'
  ·have hj2 : j = (lblP i q).length := by have := of_decide_eq_false hj2; omega
   subst hj2
   have hall := not_near_far hv hin fun r hr => by
    obtain ⟨k, hk⟩ := List.getElem?_of_mem hr
    exact hok k r (List.getElem?_eq_some_iff.1 hk).1 hk
   rw [hall, Bool.true_and]
   refine goD ?_; intros
   refine dw_cf rfl rfl (d_distance hds hls oM oM) ?_
   rintro _ rfl
   refine goD ?_; intros
   refine ds_ret ⟨_, rfl, rfl, ?_⟩
   rw [w5]
theorem fitsP_last {p : Pic} (hv : validPic p = true) {i y x : Nat} (h : (p.w / 2).toNat - 1 <= x) : fitsP p i ((x : Int), (y : Int)) = false := by
 have hh := (validPic_fs hv).2.2.1
 simp only [headOk, Bool.and_eq_true, decide_eq_true_eq] at hh
 obtain ⟨⟨⟨hw1, hw2⟩, hw3⟩, _⟩ := hh
 have : fitsH p ((x : Int), (y : Int)) = false := by
  rw [Bool.eq_false_iff]
  intro h2
  simp only [fitsH, Bool.and_eq_true, decide_eq_true_eq] at h2
  omega
 rw [fitsP, this, Bool.false_and]
set_option maxHeartbeats 8000000 in
theorem d_choices {p : Pic} {A : List Bool} {i : Nat} (hv : validPic p = true) (hF : Few p) (hA : SiteOk p A) (hi : i < p.fs.length) : DK 44 [siteV p A, .int i] fun d => d = ptsD (candP p i) := by
 refine dfn_ok cp44 rfl GHro fun Z0 lo => ?_
 have hh := (validPic_fs hv).2.2.1
 simp only [headOk, Bool.and_eq_true, decide_eq_true_eq] at hh
 obtain ⟨⟨⟨hw1, hw2⟩, hw3⟩, ⟨hh1, hh2⟩, hh3⟩ := hh
 rw [Int.tmod_eq_emod_of_nonneg (by omega)] at hw3 hh3
 obtain ⟨nw, hnw⟩ : ∃ nw : Nat, nw = (p.w / 2).toNat - 1 := ⟨_, rfl⟩
 obtain ⟨nh, hnh⟩ : ∃ nh : Nat, nh = (p.h / 3).toNat := ⟨_, rfl⟩
 have hw4 : p.w = 2 * ((nw : Int) + 1) := by omega
 have hh4 : p.h = 3 * (nh : Int) := by omega
 have hnw2 : nw < 30 := by omega
 have hnh2 : nh <= 20 := by omega
 have w1 : IntKind.i64.wrap (p.w.tdiv 2) = ((nw + 1 : Nat) : Int) := by rw [Int.tdiv_eq_ediv_of_nonneg (by omega), dwrap (by omega) (by omega)]; omega
 have w2 : IntKind.i64.wrap (p.h.tdiv 3) = (nh : Int) := by rw [Int.tdiv_eq_ediv_of_nonneg (by omega), dwrap (by omega) (by omega)]; omega
 have hlast : ∀ y : Nat, fitsP p i ((nw : Int), (y : Int)) = false := fun y => fitsP_last (x := nw) hv oM
 refine goD ?_; intros
 rw [w2]
 refine ds_virt 5 2 rfl ?_
 refine ds_loop (fun m E S nk => ∃ (y : Nat) (out : List Pt2), y + m = nh /\ out = candN p i nw y /\ E = [(0, siteV p A), (1, .int i), (5, .one (.own 0 0 out.length 2)), (14, .int nh), (15, .int y)] /\ S = [(0, .data (out.flatMap ptF))] /\ nk = 1)
  ⟨nh, _, _, _, [], ?wk, 0, [], oM, rfl, rfl, rfl, rfl⟩ ?_
 case wk => exact wkA
 rintro m E S nk ⟨y, out, hy, ho, rfl, rfl, rfl⟩
 refine goD ?_; intros
 refine ds_if rfl (fun ht => ?_) (fun ht => ?_)
 ·have ht : y < nh := by have := of_decide_eq_true ht; omega
  have hcl := candN_len p i nw y
  have hcm : y * nw <= 20 * 30 := Nat.mul_le_mul oM oM
  refine goD ?_; intros
  rw [w1]
  refine ds_loop (fun m E S nk => ∃ (x : Nat) (o2 : List Pt2), x + m = nw + 1 /\ o2 = out ++ rowC p i y x /\ E = [(0, siteV p A), (1, .int i), (5, .one (.own 0 0 o2.length 2)), (14, .int nh), (15, .int y), (6, .int y), (23, .int (nw + 1 : Nat)), (24, .int x)] /\ S = [(0, .data (o2.flatMap ptF))] /\ nk = 1)
   ⟨nw + 1, _, _, _, [], ?wk2, 0, out, by omega, by simp [rowC], rfl, rfl, rfl⟩ ?_
  case wk2 => exact wkA
  rintro m2 E S nk ⟨x, o2, hx, ho2, rfl, rfl, rfl⟩
  have hrl := rowC_len p i y x
  have hol : o2.length <= 1000 := by rw [ho2, List.length_append, ho]; omega
  have hfl := ptF_len o2
  refine goD ?_; intros
  refine ds_if rfl (fun ht2 => ?_) (fun ht2 => ?_)
  ·have ht2 : x < nw + 1 := by have := of_decide_eq_true ht2; omega
   refine goD ?_; intros
   refine dw_cf rfl rfl (d_free (i := i) (q := ((x : Int), (y : Int))) hv hF hA hi (by unfold Small; simp only; omega)) ?_
   rintro _ rfl
   refine goD ?_; intros
   refine ds_if rfl (fun hf => ?_) (fun hf => ?_)
   ·refine goD ?_; intros
    refine dw_app (m := 1) (q := ptF ((x : Int), (y : Int))) rfl rfl rfl (subL_all _ hfl) ⟨rfl, rfl, _, rfl, rfl⟩ oM oM (by decide) rfl ?_
    rw [show o2.flatMap ptF ++ ptF ((x : Int), (y : Int)) = (o2 ++ [((x : Int), (y : Int))]).flatMap ptF by simp, show o2.length + 1 = (o2 ++ [((x : Int), (y : Int))]).length by simp]
    refine goD ?_; intros
    refine ⟨m2 - 1, by omega, _, _, _, [(0, 3)], ?wk3, x + 1, o2 ++ [((x : Int), (y : Int))], by omega, by rw [rowC_t hf, ho2, List.append_assoc], rfl, rfl, rfl⟩
    case wk3 => exact wkA
   ·refine goD ?_; intros
    refine ⟨m2 - 1, by omega, _, _, _, [], ?wk4, x + 1, o2, by omega, by rw [rowC_f hf, ho2], rfl, rfl, rfl⟩
    case wk4 => exact wkA
  ·have ht2 : x = nw + 1 := by have := of_decide_eq_false ht2; omega
   subst ht2
   rw [rowC_f (hlast y)] at ho2
   refine goD ?_; intros
   refine ⟨m - 1, by omega, _, _, _, [], ?wk5, y + 1, o2, by omega, by rw [candN_succ, ho2, ho], rfl, rfl, rfl⟩
   case wk5 => exact wkA
 ·have ht : y = nh := by have := of_decide_eq_false ht; omega
  subst ht
  have hfl := ptF_len out
  refine goD ?_; intros
  refine ds_keep (SubA.cons (k := 4) rfl (SubA.nil _)) (SubA.cons (k := 0) rfl (SubA.nil _)) ?_
  refine ds_frz 0 rfl okZ okZ ?_
  refine ds_ret ⟨_, rfl, rfl, ?_⟩
  rw [candP, <- hnw, <- hnh, <- ho]
  rfl
def freeK (g : Int) (l : List Pt2) (c : Pt2) (k : Nat) : Bool := (List.range k).all fun j => !clashP g l.length c j (at0 l j)
theorem freeK_succ {g : Int} {l : List Pt2} {c b : Pt2} {k : Nat} (h : l[k]? = some b) : freeK g l c (k + 1) = (freeK g l c k && !clashP g l.length c k b) := by
 unfold freeK
 rw [List.range_succ, List.all_append, List.all_cons, List.all_nil, Bool.and_true, at0_of h]
def tryL (f : Pt2 -> List Pt2) (N : Nat) : List Pt2 -> List Pt2
 | [] => []
 | c :: cs => if (f c).length = N then f c else tryL f N cs
def srch (g : Int) (all : List (List Pt2)) : Nat -> List Pt2 -> List Pt2
 | 0, l => l
 | n + 1, l => tryL (fun c => if freeK g l c l.length = true then srch g all n (l ++ [c]) else []) all.length ((all[l.length]?).getD [])
theorem dw_nil1 {p : Par} {base rs : Nat} {Q : DEnv -> Bx -> Nat -> Prop} {r : List SOper} {W : Wt} {A : List Nat} {E : DEnv} {S : Bx} {nk : Nat} {t : Nat} (e : Nat) {x y : DC} (ht : lk E t = some (.agg [.f (.c .nils), x, y])) (h : DPW p base rs Q r W A ((t, .agg [.f (.sl e 0 []), x, y]) :: E) S nk) : DPW p base rs Q r W A E S nk := .mk fun Z β H F c hS hE hC hA => by
 refine h.run Z β H F c hS (fun k d hd => ?_) hC hA
 rw [lk_cons] at hd
 split at hd
 ·rename_i e; subst e
  obtain rfl := Option.some.inj hd
  obtain ⟨v, hv, cs, rfl, hr⟩ := hE _ _ ht
  match cs, hr with
  | [c1, c2, c3], ⟨h1, h2, h3, _⟩ =>
   have h1 : RF Z H (.c .nils) c1 := h1
   cases h1
   exact ⟨_, hv, _, rfl, RF.nil _, h2, h3, trivial⟩
 ·exact hE k d hd
def alls (p : Pic) (i : Nat) : List (List Pt2) := (List.range i).map (candP p)
def sAt (p : Pic) (i : Nat) : List Pt2 := srch p.gap (alls p (i + 1)) (i + 1) []
abbrev Plc := List Pt2 × Int × Int
def plcD (r : Plc) : DV := .agg [.f (.sl 2 r.1.length (r.1.flatMap ptF)), .f (.c (.int .i64 r.2.1)), .f (.c (.int .i64 r.2.2))]
inductive PlcR (p : Pic) : Plc -> Prop
 | bad (i : Nat) (hi : i < p.fs.length) (hb : (sAt p i).length <= i) (hok : ∀ j, j < i -> ¬ (sAt p j).length <= j) : PlcR p ([], (i : Int), 150)
 | ok (hok : ∀ j, j < p.fs.length -> ¬ (sAt p j).length <= j) : PlcR p (sAt p (p.fs.length - 1), ((sAt p (p.fs.length - 1)).length : Int), 0)
theorem candP_small {p : Pic} (hv : validPic p = true) (i : Nat) : (∀ q ∈ candP p i, Small 1000000 q) /\ (candP p i).length < 1000000 := by
 have hh := (validPic_fs hv).2.2.1
 simp only [headOk, Bool.and_eq_true, decide_eq_true_eq] at hh
 have h1 : (p.w / 2).toNat - 1 <= 30 := by omega
 have h2 : (p.h / 3).toNat <= 20 := by omega
 refine ⟨fun q hq => ?_, ?_⟩
 ·unfold candP candN at hq
  obtain ⟨y, hy, hq⟩ := List.mem_flatMap.1 hq
  unfold rowC at hq
  obtain ⟨x, hx, rfl⟩ := List.mem_map.1 (List.mem_filter.1 hq).1
  have := List.mem_range.1 hx
  have := List.mem_range.1 hy
  unfold Small
  simp only
  omega
 ·have h3 := candN_len p i ((p.w / 2).toNat - 1) (p.h / 3).toNat
  have h4 : (p.h / 3).toNat * ((p.w / 2).toNat - 1) <= 20 * 30 := Nat.mul_le_mul h2 h1
  unfold candP
  omega
structure LegL (g : Int) (all : List (List Pt2)) (l : List Pt2) : Prop where
 le : l.length <= all.length
 ch : ∀ (i : Nat) (q : Pt2), l[i]? = some q -> q ∈ (all[i]?).getD []
 ap : ∀ (i k : Nat) (a b : Pt2), k < i -> l[i]? = some a -> l[k]? = some b -> clashP g i a k b = false
theorem clashP_comm (g : Int) (i k : Nat) (a b : Pt2) : clashP g i a k b = clashP g k b i a := by unfold clashP; rw [dist_comm]
theorem LegL.nil (g : Int) (all : List (List Pt2)) : LegL g all [] := ⟨Nat.zero_le _, fun _ _ h => by simp at h, fun _ _ _ _ _ h => by simp at h⟩
theorem LegL.take {g : Int} {all : List (List Pt2)} {l : List Pt2} (h : LegL g all l) (n : Nat) : LegL g all (l.take n) := by
 have e : ∀ {i : Nat} {q : Pt2}, (l.take n)[i]? = some q -> l[i]? = some q := fun {i q} hi => by
  rw [List.getElem?_take] at hi
  split at hi
  ·exact hi
  ·cases hi
 exact ⟨by rw [List.length_take]; have := h.le; omega, fun i q hi => h.ch i q (e hi), fun i k a b hk ha hb => h.ap i k a b hk (e ha) (e hb)⟩
theorem LegL.all {g : Int} {all all' : List (List Pt2)} {l : List Pt2} (h : LegL g all l) (hl : l.length <= all'.length) (he : ∀ i, i < l.length -> all'[i]? = all[i]?) : LegL g all' l :=
 ⟨hl, fun i q hi => by rw [he i (List.getElem?_eq_some_iff.1 hi).1]; exact h.ch i q hi, h.ap⟩
theorem freeK_iff {g : Int} {l : List Pt2} {c : Pt2} : freeK g l c l.length = true ↔ ∀ (j : Nat) (b : Pt2), l[j]? = some b -> clashP g l.length c j b = false := by
 unfold freeK
 rw [List.all_eq_true]
 constructor
 ·intro h j b hb
  have := h j (List.mem_range.2 (List.getElem?_eq_some_iff.1 hb).1)
  rw [at0_of hb] at this
  simpa using this
 ·intro h j hj
  obtain ⟨b, hb⟩ : ∃ r, l[j]? = some r := ⟨_, List.getElem?_eq_getElem (List.mem_range.1 hj)⟩
  rw [at0_of hb, h j b hb]
  rfl
theorem snoc_at {α : Type} {l : List α} {c q : α} {i : Nat} (h : (l ++ [c])[i]? = some q) : l[i]? = some q \/ (i = l.length /\ q = c) := by
 rcases Nat.lt_trichotomy i l.length with hi|hi|hi
 ·rw [List.getElem?_append_left hi] at h; exact .inl h
 ·subst hi
  simp at h
  exact .inr ⟨rfl, h.symm⟩
 ·rw [List.getElem?_eq_none (by simp; omega)] at h; cases h
theorem LegL.snoc {g : Int} {all : List (List Pt2)} {l : List Pt2} {c : Pt2} (h : LegL g all l) (hl : l.length < all.length) (hc : c ∈ (all[l.length]?).getD []) (hf : freeK g l c l.length = true) : LegL g all (l ++ [c]) := by
 refine ⟨by rw [List.length_append, List.length_singleton]; omega, fun i q hi => ?_, fun i k a b hk ha hb => ?_⟩
 ·rcases snoc_at hi with hi|⟨rfl, rfl⟩
  ·exact h.ch i q hi
  ·exact hc
 ·rcases snoc_at ha with g1|⟨g1, g2⟩
  ·rcases snoc_at hb with g3|⟨g3, g4⟩
   ·exact h.ap i k a b hk g1 g3
   ·have := (List.getElem?_eq_some_iff.1 g1).1; omega
  ·rcases snoc_at hb with g3|⟨g3, g4⟩
   ·rw [g1, g2]; exact freeK_iff.1 hf k b g3
   ·omega
theorem tryL_spec {f : Pt2 -> List Pt2} {N : Nat} : ∀ cs : List Pt2, (tryL f N cs = [] /\ ∀ c ∈ cs, (f c).length ≠ N) \/ ∃ (i : Nat) (c : Pt2), cs[i]? = some c /\ (∀ x ∈ cs.take i, (f x).length ≠ N) /\ (f c).length = N /\ tryL f N cs = f c
 | [] => .inl ⟨rfl, fun c hc => by cases hc⟩
 | c :: cs => by
  by_cases h : (f c).length = N
  ·exact .inr ⟨0, c, rfl, fun x hx => by simp at hx, h, by rw [tryL, if_pos h]⟩
  ·rcases tryL_spec cs with ⟨h1, h2⟩|⟨i, d, h1, h2, h3, h4⟩
   ·refine .inl ⟨by rw [tryL, if_neg h, h1], fun x hx => ?_⟩
    rcases List.mem_cons.1 hx with rfl|hx
    ·exact h
    ·exact h2 x hx
   ·refine .inr ⟨i + 1, d, by simpa using h1, fun x hx => ?_, h3, by rw [tryL, if_neg h, h4]⟩
    rw [List.take_succ_cons] at hx
    rcases List.mem_cons.1 hx with rfl|hx
    ·exact h
    ·exact h2 x hx
theorem tryL_at {f : Pt2 -> List Pt2} {N : Nat} {cs : List Pt2} {i : Nat} {c : Pt2} (h : cs[i]? = some c) (hb : ∀ x ∈ cs.take i, (f x).length ≠ N) (hc : (f c).length = N) : tryL f N cs = f c := by
 induction cs generalizing i with
 | nil => simp at h
 | cons x cs ih =>
  cases i with
  | zero => simp at h; subst h; rw [tryL, if_pos hc]
  | succ i =>
   rw [tryL, if_neg (hb x (by simp)), ih (by simpa using h) fun y hy => hb y (by rw [List.take_succ_cons]; exact List.mem_cons_of_mem _ hy)]
def stepF (g : Int) (all : List (List Pt2)) (n : Nat) (l : List Pt2) (c : Pt2) : List Pt2 := if freeK g l c l.length = true then srch g all n (l ++ [c]) else []
theorem srch_eq (g : Int) (all : List (List Pt2)) (n : Nat) (l : List Pt2) : srch g all (n + 1) l = tryL (stepF g all n l) all.length ((all[l.length]?).getD []) := rfl
theorem srch_len {g : Int} {all : List (List Pt2)} : ∀ {n : Nat} {l : List Pt2}, l.length + n = all.length -> (srch g all n l).length = all.length \/ srch g all n l = []
 | 0, l, h => .inl (by rw [srch]; omega)
 | n + 1, l, h => by
  rw [srch_eq]
  rcases tryL_spec (f := stepF g all n l) (N := all.length) ((all[l.length]?).getD []) with ⟨h1, _⟩|⟨_, c, _, _, h3, h4⟩
  ·exact .inr h1
  ·rw [h4]; exact .inl h3
theorem srch_sound {g : Int} {all : List (List Pt2)} : ∀ {n : Nat} {l : List Pt2}, LegL g all l -> l.length + n = all.length -> (srch g all n l).length = all.length -> LegL g all (srch g all n l) /\ ∃ t, srch g all n l = l ++ t
 | 0, l, hl, _, _ => ⟨hl, [], by rw [srch, List.append_nil]⟩
 | n + 1, l, hl, hn, hlen => by
  rw [srch_eq] at hlen ⊢
  rcases tryL_spec (f := stepF g all n l) (N := all.length) ((all[l.length]?).getD []) with ⟨h1, _⟩|⟨i, c, h1, _, h3, h4⟩
  ·rw [h1] at hlen
   simp at hlen
   omega
  ·rw [h4]
   have hpos : 0 < all.length := by omega
   unfold stepF at h3 ⊢
   by_cases hf : freeK g l c l.length = true
   ·rw [if_pos hf] at h3 ⊢
    obtain ⟨g1, t, g2⟩ := srch_sound (hl.snoc (by omega) (List.mem_of_getElem? h1) hf) (by rw [List.length_append, List.length_singleton]; omega) h3
    exact ⟨g1, c :: t, by rw [g2, List.append_assoc]; rfl⟩
   ·rw [if_neg hf] at h3
    simp at h3
    omega
theorem take_snoc {α : Type} {m : List α} {i : Nat} {c : α} (h : m[i]? = some c) : m.take (i + 1) = m.take i ++ [c] := by
 obtain ⟨hi, rfl⟩ := List.getElem?_eq_some_iff.1 h
 rw [List.take_add_one, h]
 rfl
theorem free_of {g : Int} {all : List (List Pt2)} {m : List Pt2} {i : Nat} {c : Pt2} (hm : LegL g all m) (hi : m[i]? = some c) : freeK g (m.take i) c (m.take i).length = true := by
 have hl : (m.take i).length = i := by rw [List.length_take]; have := (List.getElem?_eq_some_iff.1 hi).1; omega
 refine freeK_iff.2 fun j b hb => ?_
 rw [hl]
 have hj := (List.getElem?_eq_some_iff.1 hb).1
 rw [hl] at hj
 rw [List.getElem?_take, if_pos hj] at hb
 exact hm.ap i j c b hj hi hb
theorem srch_complete {g : Int} {all : List (List Pt2)} {m : List Pt2} (hm : LegL g all m) (hlen : m.length = all.length) : ∀ {n i : Nat}, i + n = all.length -> (srch g all n (m.take i)).length = all.length
 | 0, i, h => by rw [srch, List.length_take]; omega
 | n + 1, i, h => by
  obtain ⟨c, hc⟩ : ∃ c, m[i]? = some c := ⟨_, List.getElem?_eq_getElem oM⟩
  have hl : (m.take i).length = i := by rw [List.length_take]; omega
  have ih := srch_complete hm hlen (n := n) (i := i + 1) oM
  rw [take_snoc hc] at ih
  rw [srch_eq, hl]
  have hs : (stepF g all n (m.take i) c).length = all.length := by rw [stepF, if_pos (free_of hm hc)]; exact ih
  rcases tryL_spec (f := stepF g all n (m.take i)) (N := all.length) ((all[i]?).getD []) with ⟨_, h2⟩|⟨_, _, _, _, h3, h4⟩
  ·exact absurd hs (h2 c (hm.ch i c hc))
  ·rw [h4]; exact h3
def agreeB (B : Nat) (L l : List Pt2) : Prop := ∀ j, j < l.length -> B.testBit j = true -> L[j]? = l[j]?
def FailS (g : Int) (all : List (List Pt2)) (k B : Nat) (l : List Pt2) : Prop := ∀ L, LegL g all L -> k < L.length -> ¬ agreeB B L l
def FailC (g : Int) (all : List (List Pt2)) (k B : Nat) (l : List Pt2) (cs : List Pt2) : Prop := ∀ L, LegL g all L -> k < L.length -> agreeB B L l -> ∀ q ∈ cs, L[l.length]? ≠ some q
theorem FailC.nil {g : Int} {all : List (List Pt2)} {k B : Nat} {l : List Pt2} : FailC g all k B l [] := fun _ _ _ _ q hq => by cases hq
theorem FailC.end {g : Int} {all : List (List Pt2)} {k B : Nat} {l C : List Pt2} (hC : all[l.length]? = some C) (hk : l.length <= k) (h : FailC g all k B l C) : FailS g all k B l := fun L hL hlen ha => by
 obtain ⟨q, hq⟩ : ∃ q, L[l.length]? = some q := ⟨_, List.getElem?_eq_getElem oM⟩
 have := hL.ch _ q hq
 rw [hC] at this
 exact h L hL hlen ha q this hq
theorem FailC.mono {g : Int} {all : List (List Pt2)} {k k' B B' : Nat} {l C : List Pt2} (h : FailC g all k B l C) (hk : k <= k') (hB : ∀ j, j < l.length -> B.testBit j = true -> B'.testBit j = true) : FailC g all k' B' l C := fun L hL hlen ha => h L hL oM fun j hj hb => ha j hj (hB j hj hb)
theorem FailC.clash {g : Int} {all : List (List Pt2)} {k B j : Nat} {l C : List Pt2} {c b : Pt2} (h : FailC g all k B l C) (hb : l[j]? = some b) (hB : B.testBit j = true) (hc : clashP g j b l.length c = true) : FailC g all k B l (C ++ [c]) := fun L hL hlen ha q hq e => by
 rcases List.mem_append.1 hq with hq|hq
 ·exact h L hL hlen ha q hq e
 ·rw [List.mem_singleton] at hq
  subst hq
  have hj := (List.getElem?_eq_some_iff.1 hb).1
  have h1 := ha j hj hB
  rw [hb] at h1
  rw [clashP_comm, hL.ap l.length j q b hj e h1] at hc
  cases hc
theorem FailC.fail {g : Int} {all : List (List Pt2)} {k B B' : Nat} {l C : List Pt2} {c : Pt2} (h : FailC g all k B l C) (hs : FailS g all k B' (l ++ [c])) (hB : ∀ j, j < l.length -> B'.testBit j = true -> B.testBit j = true) : FailC g all k B l (C ++ [c]) := fun L hL hlen ha q hq e => by
 rcases List.mem_append.1 hq with hq|hq
 ·exact h L hL hlen ha q hq e
 ·rw [List.mem_singleton] at hq
  subst hq
  refine hs L hL hlen fun j hj hb => ?_
  by_cases hjl : j < l.length
  ·rw [List.getElem?_append_left hjl]; exact ha j hjl (hB j hjl hb)
  ·have : j = l.length := by rw [List.length_append, List.length_singleton] at hj; omega
   subst this
   rw [e]; simp
theorem FailS.drop {g : Int} {all : List (List Pt2)} {k B : Nat} {l : List Pt2} {c : Pt2} (hs : FailS g all k B (l ++ [c])) (hB : B.testBit l.length = false) : FailS g all k B l := fun L hL hlen ha => hs L hL hlen fun j hj hb => by
 by_cases hjl : j < l.length
 ·rw [List.getElem?_append_left hjl]; exact ha j hjl hb
 ·have : j = l.length := by rw [List.length_append, List.length_singleton] at hj; omega
  subst this
  rw [hB] at hb
  cases hb
theorem FailC.step {g : Int} {all : List (List Pt2)} {k B n : Nat} {l C : List Pt2} (hl : LegL g all l) (hn : l.length + (n + 1) = all.length) (hk : k < all.length) (h : FailC g all k B l C) (hC : ∀ c ∈ C, c ∈ (all[l.length]?).getD []) : ∀ c ∈ C, (stepF g all n l c).length ≠ all.length := fun c hc hlen => by
 unfold stepF at hlen
 by_cases hf : freeK g l c l.length = true
 ·rw [if_pos hf] at hlen
  obtain ⟨g1, t, g2⟩ := srch_sound (hl.snoc (by omega) (hC c hc) hf) (by rw [List.length_append, List.length_singleton]; omega) hlen
  refine h _ g1 oM (fun j hj _ => ?_) c hc ?_
  ·rw [g2, List.append_assoc, List.getElem?_append_left hj]
  ·rw [g2, List.append_assoc]; simp
 ·rw [if_neg hf] at hlen
  simp at hlen
  omega
set_option maxHeartbeats 8000000 in
theorem d_legal {p : Pic} {l : List Pt2} (hFi : Fine p) (hF : Few p) (hl : ∀ q ∈ l, Small 1000000 q) : DK 19 [picD p, ptsD l] fun d => d = .bool (validPic p && legalP p l) := by
 refine dfn_ok cp19 rfl GHro fun Z0 lo => ?_
 have hcv := d_apvalid hFi
 by_cases hlen : l.length = p.fs.length
 ·have b1 : ((l.length : Int) != (p.fs.length : Int)) = false := by rw [hlen]; simp
  refine goB ?_; intros
  refine dw_cf rfl rfl hcv ?_
  rintro _ rfl
  cases hv : validPic p with
  | false =>
   refine goD ?_; intros
   refine ds_if rfl (fun _ => ?_) (fun h => by cases h)
   refine goD ?_; intros
   exact ds_ret ⟨_, rfl, rfl, rfl⟩
  | true =>
   have hl8 := (validPic_fs hv).1
   have hlp : (true && legalP p l) = (List.range l.length).all (legal1 p l) := by
    rw [legalP, decide_eq_true hlen, legalF, decide_eq_true (by omega)]
    simp only [Bool.true_and]
   rw [hlp]
   refine goD ?_; intros
   refine ds_if rfl (fun h => by cases h) (fun _ => ?_)
   refine goD ?_; intros
   refine dw_cf rfl rfl (d_survey hv) ?_
   rintro _ ⟨A, hA, rfl⟩
   refine goD ?_; intros
   refine ds_loop (fun m E S nk => ∃ i : Nat, i + m = l.length /\ (∀ j, j < i -> legal1 p l j = true) /\ E = [(1, ptsD l), (5, siteV p A), (22, ptsD l), (23, .int l.length), (24, .int i)] /\ S = [] /\ nk = 0)
    ⟨l.length, _, _, _, [], ?wk, 0, oM, fun j hj => oM, rfl, rfl, rfl⟩ ?_
   case wk => exact wkA
   rintro m E S nk ⟨i, hi, hok, rfl, rfl, rfl⟩
   refine goD ?_; intros
   refine ds_if rfl (fun hi2 => ?_) (fun hi2 => ?_)
   ·have hi2 : i < l.length := by have := of_decide_eq_true hi2; omega
    obtain ⟨q, hq⟩ : ∃ r, l[i]? = some r := ⟨_, List.getElem?_eq_getElem hi2⟩
    have e1 := ptF_at hq
    have hqs := hl q (List.mem_of_getElem? hq)
    have hqa := at0_of hq
    refine goD ?_; intros
    refine dw_cf rfl rfl (d_free (i := i) (q := q) hv hF hA oM hqs) ?_
    rintro _ rfl
    refine goD ?_; intros
    refine ds_if rfl (fun hf => ?_) (fun hf => ?_)
    ·have hf : fitsP p i q = false := by simpa using hf
     refine goD ?_; intros
     refine ds_ret ⟨_, rfl, rfl, ?_⟩
     rw [range_bad hi2 (by rw [legal1, hqa, hf, Bool.false_and])]
    ·have hf : fitsP p i q = true := by simpa using hf
     refine goD ?_; intros
     refine ds_frzP 0 (fs := ptF q) rfl ?_
     refine ds_loop (fun m E S nk => ∃ k : Nat, k + m = i /\ (∀ j, j < k -> clashP p.gap i q j (at0 l j) = false) /\ E = [(1, ptsD l), (5, siteV p A), (22, ptsD l), (23, .int l.length), (24, .int i), (6, .int i), (7, .one (.fptr (ptF q))), (34, .int i), (35, .int k)] /\ S = [] /\ nk = 0)
      ⟨i, _, _, _, [], ?wk2, 0, oM, fun j hj => oM, rfl, rfl, rfl⟩ ?_
     case wk2 => exact wkA
     rintro m2 E S nk ⟨k, hk, hok2, rfl, rfl, rfl⟩
     refine goD ?_; intros
     refine ds_if rfl (fun hk2 => ?_) (fun hk2 => ?_)
     ·have hk2 : k < i := by have := of_decide_eq_true hk2; omega
      obtain ⟨b, hb⟩ : ∃ r, l[k]? = some r := ⟨_, List.getElem?_eq_getElem oM⟩
      have e2 := ptF_at hb
      have hbs := hl b (List.mem_of_getElem? hb)
      have hba := at0_of hb
      have hcl := d_clash (p := p) (A := A) (i := k) (k := i) oM oM hbs hqs
      rw [clashP_comm] at hcl
      refine goD ?_; intros
      refine dw_cf rfl rfl hcl ?_
      rintro _ rfl
      refine goD ?_; intros
      refine ds_if rfl (fun hd => ?_) (fun hd => ?_)
      ·refine goD ?_; intros
       refine ds_ret ⟨_, rfl, rfl, ?_⟩
       rw [range_bad hi2 (by rw [legal1, hqa, range_bad hk2 (by rw [hba, hd]; rfl), Bool.and_false])]
      ·refine goD ?_; intros
       refine ⟨m2 - 1, oM, _, _, _, [], ?wk3, k + 1, oM, ?hno, rfl, rfl, rfl⟩
       case hno =>
        intro j hj
        by_cases hjk : j = k
        ·subst hjk; rw [hba]; exact hd
        ·exact hok2 j oM
       case wk3 => exact wkA
     ·have hk2 : k = i := by have := of_decide_eq_false hk2; omega
      subst hk2
      refine goD ?_; intros
      refine ⟨m - 1, oM, _, _, _, [], ?wk4, k + 1, oM, ?hno2, rfl, rfl, rfl⟩
      case hno2 =>
       intro j hj
       by_cases hjk : j = k
       ·subst hjk
        rw [legal1, hqa, hf, Bool.true_and]
        exact range_good fun x hx => by rw [hok2 x hx]; rfl
       ·exact hok j oM
      case wk4 => exact wkA
   ·have hi2 : i = l.length := by have := of_decide_eq_false hi2; omega
    subst hi2
    refine goD ?_; intros
    refine ds_ret ⟨_, rfl, rfl, ?_⟩
    rw [range_good hok]
 ·have b1 : ((l.length : Int) != (p.fs.length : Int)) = true := by
   have : ¬ (l.length : Int) = p.fs.length := by omega
   simpa using this
  refine goB ?_; intros
  refine ds_if rfl (fun _ => ?_) (fun h => by cases h)
  refine goB ?_; intros
  refine ds_ret ⟨_, rfl, rfl, ?_⟩
  rw [legalP, decide_eq_false hlen, Bool.false_and, Bool.and_false]
abbrev DKXa (f : FuncId) (a : Nat) (ds : List DV) (S : Bx) (nk : Nat) (R : DV -> Bx -> Nat -> Prop) : Prop := ∀ Z0 lo anc β0 H1, anc <= a -> DXa (parK Z0 lo anc β0 H1) a f ds S nk R
theorem dxka_ok {f : FuncId} {a : Nat} {sf : SFn} (hf : cpFn Tryz.prog 1 f = some sf) {ds : List DV} {S : Bx} {nk : Nat} {R : DV -> Bx -> Nat -> Prop} (hn : Nat.ble ds.length sf.n = true) (hank : a <= nk)
  (h : ∀ Z β H lo, DPS (parK Z lo a β H) sf.n sf.code (retO (parK Z lo a β H) sf.res R) (argsD ds 0) S nk) : DKXa f a ds S nk R := fun Z0 lo anc β0 H1 ha => dxa_ok (p := parK Z0 lo anc β0 H1) hf hn ha hank fun Z β H => h Z β H lo
def resB (a b c : FD) : Bk := .cells [.f a, .f b, .f c]
theorem ptsF_at' {cs : List (List Pt2)} {i : Nat} {x : List Pt2} (h : cs[i]? = some x) : subL (cs.map ptsF) ((i : Int).toNat) 1 = some [ptsF x] := by
 have := rowPt_at h
 rw [Nat.mul_one] at this
 exact this
set_option maxHeartbeats 8000000 in
theorem x_rsearch {p : Pic} {all : List (List Pt2)} {fa fb fc : FD} (ha8 : 1 <= all.length /\ all.length <= 8) (hs : ∀ c ∈ all, (∀ q ∈ c, Small 1000000 q) /\ c.length < 1000000) : ∀ (n : Nat) {l : List Pt2}, l.length + n = all.length -> (∀ q ∈ l, Small 1000000 q) ->
  DKXa 31 2 [picD p, ptsD l, .one (.own 0 0 all.length 1)] [(0, .data (all.map ptsF)), (1, resB fa fb fc)] 2 fun d S' _ => d = ptsD (srch p.gap all n l) /\ S' = [(0, .data (all.map ptsF)), (1, resB fa fb fc)]
 | 0, l, hl, hsl => by
  refine dxka_ok cp31 rfl oM fun Z β H lo => ?_
  have b1 : ((l.length : Int) == (all.length : Int)) = true := by rw [<- hl]; simp
  refine goB ?_; intros
  refine ds_if rfl (fun _ => ?_) (fun h => by cases h)
  refine goB ?_; intros
  exact ds_ret ⟨_, rfl, rfl, _, SubA.cons rfl (SubA.cons rfl (SubA.nil _)), rfl, rfl⟩
 | n + 1, l, hl, hsl => by
  have ih := fun c (hc : Small 1000000 c) => x_rsearch (p := p) (fa := fa) (fb := fb) (fc := fc) ha8 hs n (l := l ++ [c]) (by rw [List.length_append, List.length_singleton]; omega) (fun q hq => by
   rcases List.mem_append.1 hq with hq|hq
   ·exact hsl q hq
   ·rw [List.mem_singleton] at hq
    rw [hq]
    exact hc)
  refine dxka_ok cp31 rfl oM fun Z β H lo => ?_
  have b1 : ((l.length : Int) == (all.length : Int)) = false := by
   have : ¬ (l.length : Int) = all.length := by omega
   simpa using this
  obtain ⟨C, hC⟩ : ∃ r, all[l.length]? = some r := ⟨_, List.getElem?_eq_getElem oM⟩
  have hCs := hs C (List.mem_of_getElem? hC)
  have e0 := ptsF_at' hC
  have hlen : all[l.length]?.getD [] = C := by rw [hC]; rfl
  have hlf := ptF_len l
  rw [srch, hlen]
  generalize hf : (fun c => if freeK p.gap l c l.length = true then srch p.gap all n (l ++ [c]) else []) = f
  refine ds_seq ?_
  refine ds_ops mix (fun base => ?_)
  refine dw_a rfl ?_
  refine dw_p rfl ?_
  refine dw_nil ?_
  refine ds_frzP 2 (fs := picF p) rfl ?_
  refine goB ?_; intros
  refine ds_if rfl (fun h => by cases h) (fun _ => ?_)
  clear b1
  refine goD ?_; intros
  refine ds_loop (fun m E S nk => ∃ j : Nat, j + m = C.length /\ tryL f all.length C = tryL f all.length (C.drop j) /\ E = [(1, ptsD l), (2, .one (.own 0 0 all.length 1)), (3, .one (.fptr (picF p))), (7, .int l.length), (8, .int j)] /\ S = [(0, .data (all.map ptsF)), (1, resB fa fb fc)] /\ nk = 2)
   ⟨C.length, _, _, _, [], ?wk, 0, oM, rfl, rfl, rfl, rfl⟩ ?_
  case wk => exact ⟨(by repeat (first|exact trivial|refine ⟨by first|rfl|exact cgI oM oM, rfl, ?_⟩)), ⟨rfl, rfl, rfl, rfl, rfl, rfl, trivial⟩, rfl, rfl⟩
  rintro m E S nk ⟨j, hj, htr, rfl, rfl, rfl⟩
  refine goD ?_; intros
  refine ds_if rfl (fun hj2 => ?_) (fun hj2 => ?_)
  ·have hj2 : j < C.length := by have := of_decide_eq_true hj2; omega
   obtain ⟨c, hc⟩ : ∃ r, C[j]? = some r := ⟨_, List.getElem?_eq_getElem hj2⟩
   have e1 := ptF_at hc
   have hcs := hCs.1 c (List.mem_of_getElem? hc)
   have hdr : C.drop j = c :: C.drop (j + 1) := by
    rw [List.drop_eq_getElem_cons hj2]
    rw [(List.getElem?_eq_some_iff.1 hc).2]
   rw [hdr, tryL] at htr
   have n1 := lblP_len l.length c
   refine goD ?_; intros
   refine ds_loop (fun m E S nk => ∃ (k : Nat) (w : Bool), k + m = l.length /\ w = freeK p.gap l c k /\ E = [(1, ptsD l), (2, .one (.own 0 0 all.length 1)), (3, .one (.fptr (picF p))), (7, .int l.length), (8, .int j), (9, .bool w), (10, .int k)] /\ S = [(0, .data (all.map ptsF)), (1, resB fa fb fc)] /\ nk = 2)
    ⟨l.length, _, _, _, [], ?wk2, 0, true, oM, rfl, rfl, rfl, rfl⟩ ?_
   case wk2 => exact ⟨(by repeat (first|exact trivial|refine ⟨by first|rfl|exact cgI oM oM, rfl, ?_⟩)), ⟨rfl, rfl, rfl, rfl, rfl, rfl, trivial⟩, rfl, rfl⟩
   rintro m2 E S nk ⟨k, w, hk, hw, rfl, rfl, rfl⟩
   refine goD ?_; intros
   refine ds_if rfl (fun hk2 => ?_) (fun hk2 => ?_)
   ·have hk2 : k < l.length := by have := of_decide_eq_true hk2; omega
    obtain ⟨b, hb⟩ : ∃ r, l[k]? = some r := ⟨_, List.getElem?_eq_getElem hk2⟩
    have e2 := ptF_at hb
    have hbs := hsl b (List.mem_of_getElem? hb)
    have n2 := lblP_len k b
    have hfs := freeK_succ (g := p.gap) (c := c) hb
    rw [<- hw] at hfs
    clear hw
    cases w with
    | false =>
     refine goD ?_; intros
     refine ⟨m2 - 1, oM, _, _, _, [], ?wk3, k + 1, false, oM, hfs.symm, rfl, rfl, rfl⟩
     case wk3 => exact ⟨(by repeat (first|exact trivial|refine ⟨by first|rfl|exact cgI oM oM, rfl, ?_⟩)), ⟨rfl, rfl, rfl, rfl, rfl, rfl, trivial⟩, rfl, rfl⟩
    | true =>
     refine goD ?_; intros
     refine dw_cf rfl rfl (d_rlpoints (i := l.length) (q := c) oM hcs) ?_
     rintro _ rfl
     refine goD ?_; intros
     refine dw_cf rfl rfl (d_rlpoints (i := k) (q := b) oM hbs) ?_
     rintro _ rfl
     refine goD ?_; intros
     refine dw_cf rfl rfl (d_rdistance (lblP_small hcs) (lblP_small hbs) oM oM) ?_
     rintro _ rfl
     have b2 : decide (dist (lblP l.length c) (lblP k b) > p.gap) = freeK p.gap l c (k + 1) := by
      rw [hfs, Bool.true_and, clashP]
      by_cases h : dist (lblP l.length c) (lblP k b) <= p.gap
      ·rw [decide_eq_true h, decide_eq_false (by omega)]; rfl
      ·rw [decide_eq_false h, decide_eq_true (by omega)]; rfl
     clear hfs
     refine goB ?_; intros
     refine ⟨m2 - 1, oM, _, _, _, [], ?wk4, k + 1, _, oM, rfl, rfl, rfl, rfl⟩
     case wk4 => exact ⟨(by repeat (first|exact trivial|refine ⟨by first|rfl|exact cgI oM oM, rfl, ?_⟩)), ⟨rfl, rfl, rfl, rfl, rfl, rfl, trivial⟩, rfl, rfl⟩
   ·have hk2 : k = l.length := by have := of_decide_eq_false hk2; omega
    subst hk2
    have hfc : f c = if w = true then srch p.gap all n (l ++ [c]) else [] := by rw [<- hf, hw]
    clear hw
    cases w with
    | false =>
     refine goD ?_; intros
     refine ds_if rfl (fun _ => ?_) (fun h => by cases h)
     refine goD ?_; intros
     refine ⟨m - 1, by omega, _, _, _, [], ?wk5, j + 1, by omega, by rw [htr, if_neg (by rw [hfc]; simp; omega)], rfl, rfl, rfl⟩
     case wk5 => exact ⟨(by repeat (first|exact trivial|refine ⟨by first|rfl|exact cgI oM oM, rfl, ?_⟩)), ⟨rfl, rfl, rfl, rfl, rfl, rfl, trivial⟩, rfl, rfl⟩
    | true =>
     rw [if_pos rfl] at hfc
     refine goD ?_; intros
     refine ds_if rfl (fun h => by cases h) (fun _ => ?_)
     refine goD ?_; intros
     refine dw_app (m := l.length) (q := l.flatMap ptF) (l' := []) rfl rfl rfl rfl ⟨rfl, rfl, rfl⟩ oM oM (by decide) rfl ?_
     refine goD ?_; intros
     refine dw_app (m := 1) (q := ptF c) rfl rfl rfl (subL_all _ (by rw [List.nil_append, hlf, Nat.zero_add])) ⟨rfl, rfl, _, rfl, rfl⟩ (by omega) (by omega) (by decide) rfl ?_
     have hf4 : ([] ++ l.flatMap ptF ++ ptF c).length = (0 + l.length + 1) * 2 := by
      rw [List.nil_append, List.length_append, hlf, show (ptF c).length = 2 from rfl]
      omega
     have h4 : DV.one (.f (.sl 2 (0 + l.length + 1) ([] ++ l.flatMap ptF ++ ptF c))) = ptsD (l ++ [c]) := by
      rw [ptsD, List.nil_append, Nat.zero_add]
      simp
     refine dw_frz 5 rfl okZ okZ ?_
     refine dw_cxa (E0 := [(1, ptsD l), (2, .one (.own 0 0 all.length 1)), (3, .one (.fptr (picF p))), (7, .int l.length), (8, .int j), (61, picD p), (71, ptsD (l ++ [c])), (72, .one (.own 0 0 all.length 1))]) (S0 := [(0, .data (all.map ptsF)), (1, resB fa fb fc)]) (n0 := 2) (a := 2) [] ⟨⟨rfl, rfl, rfl, rfl, rfl, rfl, rfl, rfl, rfl, rfl, rfl, rfl, congrArg some h4, rfl, rfl, rfl, trivial⟩, ⟨rfl, rfl, rfl, rfl, rfl, rfl, trivial⟩, rfl, rfl⟩ rfl rfl rfl ⟨(by repeat (first|exact trivial|refine ⟨by first|rfl|exact cgI oM oM, rfl, ?_⟩)), trivial, rfl, rfl⟩ (ih c hcs _ _ _ _ _ (Nat.le_refl _)) ?_
     rintro _ S' nk' ⟨rfl, rfl⟩
     rw [<- hfc]
     refine goD ?_; intros
     refine ds_if rfl (fun hb => ?_) (fun hb => ?_)
     ·have hb : (f c).length = all.length := by
       have h : ((f c).length : Int) = all.length := by simpa using hb
       omega
      refine goD ?_; intros
      refine ds_ret ⟨_, rfl, rfl, _, SubA.cons rfl (SubA.cons rfl (SubA.nil _)), ?_, rfl⟩
      rw [htr, if_pos hb]
      rfl
     ·have hb : ¬ (f c).length = all.length := fun h => by
       rw [h] at hb
       simp at hb
      refine goD ?_; intros
      refine ⟨m - 1, by omega, _, _, _, [], ?wk6, j + 1, by omega, by rw [htr, if_neg hb], rfl, rfl, rfl⟩
      case wk6 => exact ⟨(by repeat (first|exact trivial|refine ⟨by first|rfl|exact cgI oM oM, rfl, ?_⟩)), ⟨rfl, rfl, rfl, rfl, rfl, rfl, trivial⟩, rfl, rfl⟩
  ·have hj2 : j = C.length := by have := of_decide_eq_false hj2; omega
   subst hj2
   rw [List.drop_length] at htr
   rw [htr]
   refine goD ?_; intros
   refine ds_nil 6 2 rfl ?_
   exact ds_ret ⟨_, rfl, rfl, _, SubA.cons rfl (SubA.cons rfl (SubA.nil _)), rfl, rfl⟩
theorem x_rsearch0 {p : Pic} {all : List (List Pt2)} {fa fb fc : FD} (ha8 : 1 <= all.length /\ all.length <= 8) (hs : ∀ c ∈ all, (∀ q ∈ c, Small 1000000 q) /\ c.length < 1000000) :
  DKXa 31 2 [picD p, .one (.f (.c .nils)), .one (.own 0 0 all.length 1)] [(0, .data (all.map ptsF)), (1, resB fa fb fc)] 2 fun d S' _ => d = ptsD (srch p.gap all all.length []) /\ S' = [(0, .data (all.map ptsF)), (1, resB fa fb fc)] := fun Z0 lo anc β0 H1 ha Z β H args hS hag => by
 refine x_rsearch (p := p) (fa := fa) (fb := fb) (fc := fc) ha8 hs all.length (l := []) (by simp) (fun q hq => by cases hq) Z0 lo anc β0 H1 ha Z β H args hS ?_
 match args, hag with
 | [v1, v2, v3], ⟨h1, ⟨c, hv, hc⟩, h3⟩ =>
  refine ⟨h1, ⟨c, hv, ?_⟩, h3⟩
  cases hc
  exact (RF.nil 2 : RF Z H (.sl 2 0 []) .nils)
theorem alls_succ (p : Pic) (i : Nat) : alls p (i + 1) = alls p i ++ [candP p i] := by simp [alls, List.range_succ]
theorem alls_len (p : Pic) (i : Nat) : (alls p i).length = i := by simp [alls]
def bestP (p : Pic) : Nat -> List Pt2
 | 0 => []
 | i + 1 => sAt p i
set_option maxHeartbeats 8000000 in
theorem d_rplace {p : Pic} (hv : validPic p = true) : DK 17 [picD p] fun d => ∃ r, PlcR p r /\ d = plcD r := by
 refine dfn_ok cp17 rfl GHro fun Z0 lo => ?_
 have hl8 := (validPic_fs hv).1
 refine ds_seq ?_
 refine ds_ops mix (fun base => ?_)
 refine dw_a rfl ?_
 refine dw_a rfl ?_
 refine dw_nil ?_
 refine ds_frzP 0 (fs := picF p) rfl ?_
 refine goD ?_; intros
 refine ds_frz 3 rfl okZ okZ ?_
 refine ds_loop (fun m E S nk => ∃ i : Nat, i + m = p.fs.length /\ (∀ j, j < i -> ¬ (sAt p j).length <= j) /\ E = [(1, .one (.fptr (picF p))), (2, .one (.ptr 1 0)), (3, .one (.own 0 0 i 1)), (4, ptsD (bestP p i)), (5, .int i)] /\ S = [(0, .data ((alls p i).map ptsF)), (1, resB (.c .nils) (.c (.int .i64 0)) (.c (.int .i64 0)))] /\ nk = 2)
  ⟨p.fs.length, _, _, _, [(0, 2)], ?wk, 0, oM, fun j hj => oM, rfl, rfl, rfl⟩ ?_
 case wk => exact ⟨(by repeat (first|exact trivial|refine ⟨by first|rfl|exact cgI oM oM, rfl, ?_⟩)), ⟨rfl, rfl, rfl, rfl, rfl, rfl, trivial⟩, rfl, rfl⟩
 rintro m E S nk ⟨i, hi, hok, rfl, rfl, rfl⟩
 refine goD ?_; intros
 refine ds_if rfl (fun hi2 => ?_) (fun hi2 => ?_)
 ·have hi2 : i < p.fs.length := by have := of_decide_eq_true hi2; omega
  have hal := alls_len p i
  have hml : ((alls p i).map ptsF).length = i * 1 := by rw [List.length_map]; omega
  have hsr := x_rsearch0 (p := p) (all := alls p (i + 1)) (fa := .c .nils) (fb := .c (.int .i64 0)) (fc := .c (.int .i64 0)) (by rw [alls_len]; omega) (fun c hc => by
   obtain ⟨k, hk, rfl⟩ := List.mem_map.1 hc
   exact candP_small hv k)
  rw [alls_len, alls_succ, List.map_append] at hsr
  have hst : srch p.gap (alls p i ++ [candP p i]) (i + 1) [] = sAt p i := by rw [sAt, alls_succ]
  rw [hst] at hsr
  refine goD ?_; intros
  refine dw_cf rfl rfl (d_cands hv hi2) ?_
  rintro _ rfl
  refine goD ?_; intros
  refine dw_app (m := 1) (q := [ptsF (candP p i)]) rfl rfl rfl (subL_all _ hml) ⟨rfl, rfl, _, rfl, rfl⟩ oM oM (by decide) rfl ?_
  refine goD ?_; intros
  have hmm : (alls p i).map ptsF ++ [candP p i].map ptsF = (alls p (i + 1)).map ptsF := by rw [alls_succ, List.map_append]
  refine dw_cxa (E0 := [(1, .one (.fptr (picF p))), (2, .one (.ptr 1 0)), (3, .one (.own 0 0 (i + 1) 1)), (5, .int i), (22, picD p), (23, .one (.own 0 0 (i + 1) 1))]) (S0 := [(0, .data ((alls p i).map ptsF ++ [candP p i].map ptsF)), (1, resB (.c .nils) (.c (.int .i64 0)) (.c (.int .i64 0)))]) (n0 := 2) (a := 2) [(0, 3)] ⟨(by repeat (first|exact trivial|refine ⟨by first|rfl|exact cgI oM oM, rfl, ?_⟩)), ⟨rfl, rfl, rfl, rfl, rfl, rfl, trivial⟩, rfl, rfl⟩ rfl rfl rfl ⟨(by repeat (first|exact trivial|refine ⟨by first|rfl|exact cgI oM oM, rfl, ?_⟩)), trivial, rfl, rfl⟩ (hsr _ _ _ _ _ (Nat.zero_le _)) ?_
  rintro _ S' nk' ⟨rfl, rfl⟩
  refine goD ?_; intros
  refine ds_if rfl (fun hb => ?_) (fun hb => ?_)
  ·have hb := of_decide_eq_true hb
   refine ds_seq ?_
   refine ds_ops mix (fun base => ?_)
   refine dw_p rfl ?_
   refine dw_p rfl ?_
   refine dw_nil1 (t := 30) 2 rfl ?_
   refine goD ?_; intros
   exact ds_ret ⟨_, rfl, rfl, ([], (i : Int), 150), .bad i hi2 oM hok, rfl⟩
  ·have hb := of_decide_eq_false hb
   refine goD ?_; intros
   refine ⟨m - 1, oM, _, _, _, [], ?wk2, i + 1, oM, fun j hj => ?_, rfl, rfl, rfl⟩
   case wk2 => exact ⟨(by repeat (first|exact trivial|refine ⟨by first|rfl|exact cgI oM oM, rfl, ?_⟩)), ⟨congrArg (fun z => some (Bk.data z)) hmm, rfl, rfl, rfl, rfl, rfl, trivial⟩, rfl, rfl⟩
   by_cases hji : j = i
   ·subst hji; omega
   ·exact hok j oM
 ·have hi2 : i = p.fs.length := by have := of_decide_eq_false hi2; omega
  subst hi2
  have hbest : bestP p p.fs.length = sAt p (p.fs.length - 1) := by
   obtain ⟨k, hk⟩ : ∃ k, p.fs.length = k + 1 := ⟨p.fs.length - 1, oM⟩
   rw [hk]
   rfl
  rw [hbest]
  refine goD ?_; intros
  exact ds_ret ⟨_, rfl, rfl, _, .ok hok, rfl⟩
theorem uwrap {n : Int} (h1 : 0 <= n) (h2 : n < 18446744073709551616) : IntKind.u64.wrap n = n := by
 simp [IntKind.wrap, IntKind.signed, IntKind.bits]
 omega
theorem bv_nat {a : Nat} (ha : a < 256) : (BitVec.ofInt 64 (a : Int)).toNat = a := by
 rw [BitVec.ofInt_natCast, BitVec.toNat_ofNat, Nat.mod_eq_of_lt (by omega)]
theorem pow_lt8 {k : Nat} (hk : k < 8) : 2 ^ k < 256 := Nat.pow_lt_pow_right oM hk
theorem or_lt8 {a b : Nat} (ha : a < 256) (hb : b < 256) : a ||| b < 256 := Nat.or_lt_two_pow (n := 8) ha hb
theorem a_shl {k : Nat} (hk : k < 8) : aBin .shl .u64 1 .i64 (k : Int) = some (.int .u64 ((2 ^ k : Nat) : Int)) := by
 have h1 : ¬ (k : Int) < 0 := by omega
 have h2 := pow_lt8 hk
 have h3 : min (k : Int).toNat IntKind.u64.bits = k := by
  show min k 64 = k
  omega
 simp only [aBin, if_neg h1, h3]
 rw [Int.one_mul, show (2 : Int) ^ k = ((2 ^ k : Nat) : Int) by push_cast; rfl]
 generalize 2 ^ k = m at h2 ⊢
 rw [uwrap (by omega) (by omega)]
theorem a_or {a b : Nat} (ha : a < 256) (hb : b < 256) : aBin .or .u64 (a : Int) .u64 (b : Int) = some (.int .u64 ((a ||| b : Nat) : Int)) := by
 have h := or_lt8 ha hb
 simp only [aBin, ne_eq, not_true_eq_false, if_false, reduceIte]
 show some (C.int .u64 (IntKind.u64.wrap ((BitVec.ofInt 64 (a : Int) ||| BitVec.ofInt 64 (b : Int)).toNat : Nat))) = _
 rw [BitVec.toNat_or, bv_nat ha, bv_nat hb, uwrap (by omega) (by omega)]
theorem a_shr {a k : Nat} (hk : k < 8) : aBin .shr .u64 (a : Int) .i64 (k : Int) = some (.int .u64 ((a / 2 ^ k : Nat) : Int)) := by
 have h1 : ¬ (k : Int) < 0 := by omega
 have h3 : min (k : Int).toNat IntKind.u64.bits = k := by
  show min k 64 = k
  omega
 simp only [aBin, if_neg h1, h3]
 rw [Int.fdiv_eq_ediv_of_nonneg _ (Int.le_of_lt (Int.pow_pos (by omega))), show (2 : Int) ^ k = ((2 ^ k : Nat) : Int) by push_cast; rfl]
 rfl
theorem a_and1 {a : Nat} (ha : a < 256) : aBin .and .u64 (a : Int) .u64 1 = some (.int .u64 ((a % 2 : Nat) : Int)) := by
 simp only [aBin, ne_eq, not_true_eq_false, if_false, reduceIte]
 show some (C.int .u64 (IntKind.u64.wrap ((BitVec.ofInt 64 (a : Int) &&& BitVec.ofInt 64 ((1 : Nat) : Int)).toNat : Nat))) = _
 rw [BitVec.toNat_and, bv_nat ha, bv_nat (by omega), Nat.and_one_is_mod, uwrap (by omega) (by omega)]
def dropB (W i : Nat) : Nat := (BitVec.ofInt 64 (W : Int) &&& ~~~ BitVec.ofInt 64 ((2 ^ i : Nat) : Int)).toNat
theorem dropB_lt {W i : Nat} (hW : W < 256) : dropB W i < 256 := by
 unfold dropB
 rw [BitVec.toNat_and, bv_nat hW]
 exact Nat.lt_of_le_of_lt Nat.and_le_left hW
theorem dropB_bit {W i j : Nat} (hW : W < 256) (hi : i < 8) (hj : j < 8) (hne : j ≠ i) (h : W.testBit j = true) : (dropB W i).testBit j = true := by
 unfold dropB
 rw [BitVec.toNat_and, bv_nat hW, Nat.testBit_and, h, Bool.true_and, BitVec.testBit_toNat, BitVec.getLsbD_not, <- BitVec.testBit_toNat, bv_nat (pow_lt8 hi), Nat.testBit_two_pow_of_ne (fun e => hne e.symm)]
 simp
 omega
theorem a_andNot {W i : Nat} (hW : W < 256) : aBin .andNot .u64 (W : Int) .u64 ((2 ^ i : Nat) : Int) = some (.int .u64 (dropB W i : Int)) := by
 have h := dropB_lt (i := i) hW
 simp only [aBin, ne_eq, not_true_eq_false, if_false, reduceIte]
 show some (C.int .u64 (IntKind.u64.wrap (dropB W i : Nat))) = _
 rw [uwrap (by omega) (by omega)]
theorem bit0 {W i : Nat} : (((W / 2 ^ i % 2 : Nat) : Int) == 0) = !W.testBit i := by
 rw [Nat.testBit_eq_decide_div_mod_eq]
 rcases Nat.mod_two_eq_zero_or_one (W / 2 ^ i) with h|h <;> rw [h] <;> rfl
theorem v_shl {k : Nat} (hk : k < 8) : IntKind.u64.wrap (1 * 2 ^ min (k : Int).toNat IntKind.u64.bits) = ((2 ^ k : Nat) : Int) := by
 have h := a_shl hk
 simp only [aBin, if_neg (show ¬ (k : Int) < 0 by omega), Option.some.injEq, C.int.injEq, true_and] at h
 exact h
theorem v_or {a b : Nat} (ha : a < 256) (hb : b < 256) : IntKind.u64.wrap ((BitVec.ofInt IntKind.u64.bits (a : Int) ||| BitVec.ofInt IntKind.u64.bits (b : Int)).toNat : Nat) = ((a ||| b : Nat) : Int) := by
 have h := a_or ha hb
 simp only [aBin, ne_eq, not_true_eq_false, if_false, reduceIte, Option.some.injEq, C.int.injEq, true_and] at h
 exact h
theorem v_shr {a k : Nat} (hk : k < 8) : (a : Int).fdiv (2 ^ min (k : Int).toNat IntKind.u64.bits) = ((a / 2 ^ k : Nat) : Int) := by
 have h := a_shr (a := a) hk
 simp only [aBin, if_neg (show ¬ (k : Int) < 0 by omega), Option.some.injEq, C.int.injEq, true_and] at h
 exact h
theorem v_and1 {a : Nat} (ha : a < 256) : IntKind.u64.wrap ((BitVec.ofInt IntKind.u64.bits (a : Int) &&& BitVec.ofInt IntKind.u64.bits 1).toNat : Nat) = ((a % 2 : Nat) : Int) := by
 have h := a_and1 ha
 simp only [aBin, ne_eq, not_true_eq_false, if_false, reduceIte, Option.some.injEq, C.int.injEq, true_and] at h
 exact h
theorem v_andNot {W i : Nat} (hW : W < 256) : IntKind.u64.wrap ((BitVec.ofInt IntKind.u64.bits (W : Int) &&& ~~~ BitVec.ofInt IntKind.u64.bits ((2 ^ i : Nat) : Int)).toNat : Nat) = ((dropB W i : Nat) : Int) := by
 have h := a_andNot (i := i) hW
 simp only [aBin, ne_eq, not_true_eq_false, if_false, reduceIte, Option.some.injEq, C.int.injEq, true_and] at h
 exact h
abbrev caps5 : List (Nat × Nat) := [(0, 0), (1, 0), (2, 0), (3, 0), (4, 0)]
abbrev envS (p : Pic) (A : List Bool) (all : List (List Pt2)) (k i : Nat) (D : List FD) : Bx := [(0, .cells [.own 5 0 i 2]), (1, .cells [.f (.c (.int .i64 k))]), (2, .cells [.f (.sl 1 all.length (all.map ptsF))]), (3, .cells [.fptr (siteF p (ptsOf p).length ((ptsOf p).map rowPt) A)]), (4, .cells [.fn 45 caps5]), (5, .data D)]
def AttL (p : Pic) (all : List (List Pt2)) (m : Nat) : Prop := ∃ L, LegL p.gap all L /\ L.length = m
abbrev wordD (B : Nat) : DV := .one (.f (.c (.int .u64 (B : Int))))
inductive TryR (p : Pic) (A : List Bool) (all : List (List Pt2)) (n : Nat) (l : List Pt2) (mst : Nat) : DV -> Bx -> Nat -> Prop
 | found (k : Nat) (D : List FD) (hl : (srch p.gap all n l).length = all.length) (hD : subL D 0 (all.length * 2) = some ((srch p.gap all n l).flatMap ptF)) : TryR p A all n l mst (.tup [.bool true, wordD 0]) (envS p A all k all.length D) 6
 | fail (k B : Nat) (D : List FD) (hB : B < 256) (h1 : mst <= k) (h2 : l.length <= k) (h3 : k < all.length) (ha : AttL p all k) (hF : FailS p.gap all k B l) (hD : subL D 0 (l.length * 2) = some (l.flatMap ptF)) : TryR p A all n l mst (.tup [.bool false, wordD B]) (envS p A all k l.length D) 6
theorem subL_pre {α : Type} {D q r : List α} {n i m : Nat} (h : subL D 0 n = some q) (h2 : subL q i m = some r) : subL D i m = some r := by
 obtain ⟨h1, rfl⟩ := subL_some h
 obtain ⟨h3, rfl⟩ := subL_some h2
 rw [List.drop_zero] at *
 rw [List.length_take] at h3
 rw [subL_of (by omega), List.drop_take, List.take_take]
 congr 2
 omega
set_option maxHeartbeats 16000000 in
theorem x_try {p : Pic} {A : List Bool} {all : List (List Pt2)} (ha8 : 1 <= all.length /\ all.length <= 8) (hs : ∀ c ∈ all, (∀ q ∈ c, Small 1000000 q) /\ c.length < 1000000) : ∀ (n : Nat) {l : List Pt2} {i mst : Nat} {D : List FD}, l.length = i -> i + n = all.length -> LegL p.gap all l -> mst < all.length -> AttL p all mst -> subL D 0 (i * 2) = some (l.flatMap ptF) ->
  DKXa 45 5 [.one (.ptr 0 0), .one (.ptr 1 0), .one (.ptr 2 0), .one (.ptr 3 0), .one (.ptr 4 0)] (envS p A all mst i D) 6 (TryR p A all n l mst)
 | 0, l, i, mst, D, hil, hl, hL, hm, hat, hD => by
  subst hil
  refine dxka_ok cp45 rfl oM fun Z β H lo => ?_
  obtain ⟨m1, hm1⟩ : ∃ m1 : Nat, max (mst : Int) (l.length : Int) = (m1 : Int) := ⟨max mst l.length, oM⟩
  have b1 : ((l.length : Int) == (all.length : Int)) = true := by
   have : l.length = all.length := by omega
   rw [this]; simp
  refine goB ?_; intros
  refine ds_scope ?_
  refine goB ?_; intros
  rw [hm1]
  refine ds_if rfl (fun _ => ?_) (fun h => by cases h)
  refine goB ?_; intros
  have hla : l.length = all.length := by omega
  have hr := TryR.found (p := p) (A := A) (all := all) (n := 0) (l := l) (mst := mst) m1 D hla (by rw [<- hla]; exact hD)
  rw [<- hla] at hr
  exact ds_ret ⟨_, rfl, rfl, _, SubA.refl _, hr⟩
 | n + 1, l, i, mst, D, hil, hl, hL, hm, hat, hD => by
  have hls : ∀ q ∈ l, Small 1000000 q := fun q hq => by
   obtain ⟨j, hj⟩ := List.getElem?_of_mem hq
   have h1 := hL.ch j q hj
   cases hc : all[j]? with
   | none => rw [hc] at h1; cases h1
   | some c => rw [hc] at h1; exact (hs c (List.mem_of_getElem? hc)).1 q h1
  have ih := fun (c : Pt2) {k : Nat} {D : List FD} (hf : freeK p.gap l c l.length = true) (hc : c ∈ (all[l.length]?).getD []) => x_try (p := p) (A := A) ha8 hs n (l := l ++ [c]) (i := i + 1) (mst := k) (D := D) (by rw [List.length_append, List.length_singleton]; omega) (by omega) (hL.snoc (by omega) hc hf)
  subst hil
  refine dxka_ok cp45 rfl oM fun Z β H lo => ?_
  obtain ⟨m1, hm1⟩ : ∃ m1 : Nat, max (mst : Int) (l.length : Int) = (m1 : Int) := ⟨max mst l.length, oM⟩
  have hat1 : AttL p all m1 := by
   by_cases h : mst <= l.length
   ·rw [show m1 = l.length by omega]; exact ⟨l, hL, rfl⟩
   ·rw [show m1 = mst by omega]; exact hat
  have b1 : ((l.length : Int) == (all.length : Int)) = false := by
   have : ¬ (l.length : Int) = all.length := by omega
   simpa using this
  obtain ⟨C, hC⟩ : ∃ r, all[l.length]? = some r := ⟨_, List.getElem?_eq_getElem oM⟩
  have hCs := hs C (List.mem_of_getElem? hC)
  have hCg : (all[l.length]?).getD [] = C := by rw [hC]; rfl
  have e0 : subL (all.map ptsF) (l.length * 1) 1 = some [ptsF C] := rowPt_at hC
  have hlf := ptF_len l
  have hi8 : l.length < 8 := by omega
  refine goB ?_; intros
  refine ds_scope ?_
  refine goB ?_; intros
  rw [hm1]
  refine ds_if rfl (fun h => by cases h) (fun _ => ?_)
  clear b1
  refine goD ?_; intros
  refine ds_loop (fun m E S nk => ∃ (j B k : Nat) (D : List FD), j + m = C.length /\ B < 256 /\ mst <= k /\ l.length <= k /\ k < all.length /\ AttL p all k /\ FailC p.gap all k B l (C.take j) /\ subL D 0 (l.length * 2) = some (l.flatMap ptF) /\ E = [(0, .one (.ptr 0 0)), (1, .one (.ptr 1 0)), (2, .one (.ptr 2 0)), (3, .one (.ptr 3 0)), (4, .one (.ptr 4 0)), (7, .int l.length), (8, wordD B), (27, ptsD C), (28, .int C.length), (29, .int j)] /\ S = envS p A all k l.length D /\ nk = 6)
   ⟨C.length, _, _, _, [], ?wk, 0, 0, m1, D, oM, oM, oM, oM, oM, hat1, FailC.nil, hD, rfl, rfl, rfl⟩ ?_
  case wk => exact ⟨(by repeat (first|exact trivial|refine ⟨by first|rfl|exact cgI oM oM, rfl, ?_⟩)), ⟨rfl, rfl, rfl, rfl, rfl, rfl, rfl, rfl, rfl, rfl, rfl, rfl, rfl, rfl, rfl, rfl, rfl, rfl, trivial⟩, rfl, rfl⟩
  clear hD hat1 hm1 hat
  clear D m1
  rintro m E S nk ⟨j, B, k, D, hj, hB, hmk, hlk, hkN, hat, hF, hD, rfl, rfl, rfl⟩
  refine goD ?_; intros
  refine ds_if rfl (fun hj2 => ?_) (fun hj2 => ?_)
  ·have hj2 : j < C.length := by have := of_decide_eq_true hj2; omega
   obtain ⟨q, hq⟩ : ∃ r, C[j]? = some r := ⟨_, List.getElem?_eq_getElem hj2⟩
   have e1 := ptF_at hq
   have hqs := hCs.1 q (List.mem_of_getElem? hq)
   have htk : C.take (j + 1) = C.take j ++ [q] := take_snoc hq
   refine goD ?_; intros
   refine ds_frzP 6 (fs := ptF q) rfl ?_
   refine ds_loop (fun m E S nk => ∃ k2 : Nat, k2 + m = l.length /\ (∀ (j : Nat) b, j < k2 -> l[j]? = some b -> clashP p.gap l.length q j b = false) /\ E = [(0, .one (.ptr 0 0)), (1, .one (.ptr 1 0)), (2, .one (.ptr 2 0)), (3, .one (.ptr 3 0)), (4, .one (.ptr 4 0)), (7, .int l.length), (8, wordD B), (27, ptsD C), (28, .int C.length), (29, .int j), (10, .one (.fptr (ptF q))), (33, .one (.own 5 0 l.length 2)), (34, .int l.length), (35, .int k2)] /\ S = envS p A all k l.length D /\ nk = 6)
    ⟨l.length, _, _, _, [], ?wk2, 0, oM, fun j b hj => oM, rfl, rfl, rfl⟩ ?_
   case wk2 => exact ⟨(by repeat (first|exact trivial|refine ⟨by first|rfl|exact cgI oM oM, rfl, ?_⟩)), ⟨rfl, rfl, rfl, rfl, rfl, rfl, rfl, rfl, rfl, rfl, rfl, rfl, rfl, rfl, rfl, rfl, rfl, rfl, trivial⟩, rfl, rfl⟩
   rintro m2 E S nk ⟨k2, hk2m, hok, rfl, rfl, rfl⟩
   refine goD ?_; intros
   refine ds_if rfl (fun hk2 => ?_) (fun hk2 => ?_)
   ·have hk2 : k2 < l.length := by have := of_decide_eq_true hk2; omega
    obtain ⟨b, hb⟩ : ∃ r, l[k2]? = some r := ⟨_, List.getElem?_eq_getElem hk2⟩
    have hbs := hls b (List.mem_of_getElem? hb)
    have e2 : subL D ((k2 : Int).toNat * 2) 2 = some (ptF b) := subL_pre hD (ptF_at hb)
    have hcl := d_clash (p := p) (A := A) (i := k2) (k := l.length) oM oM hbs hqs
    refine goD ?_; intros
    refine dw_cf rfl rfl hcl ?_
    rintro _ rfl
    refine goD ?_; intros
    refine ds_if rfl (fun hd => ?_) (fun hd => ?_)
    ·refine goD ?_; intros
     rw [v_shl (k := k2) (by omega), v_or hB (pow_lt8 (by omega))]
     refine ⟨m - 1, oM, _, _, _, [], ?wk3, j + 1, B ||| 2 ^ k2, k, D, oM, or_lt8 hB (pow_lt8 oM), hmk, hlk, hkN, hat, ?_, hD, rfl, rfl, rfl⟩
     case wk3 => exact ⟨(by repeat (first|exact trivial|refine ⟨by first|rfl|exact cgI oM oM, rfl, ?_⟩)), ⟨rfl, rfl, rfl, rfl, rfl, rfl, rfl, rfl, rfl, rfl, rfl, rfl, rfl, rfl, rfl, rfl, rfl, rfl, trivial⟩, rfl, rfl⟩
     rw [htk]
     refine FailC.clash (j := k2) (hF.mono (Nat.le_refl _) fun x _ hx => ?_) hb ?_ hd
     ·rw [Nat.testBit_or, hx, Bool.true_or]
     ·rw [Nat.testBit_or, Nat.testBit_two_pow_self, Bool.or_true]
    ·refine goD ?_; intros
     refine ⟨m2 - 1, oM, _, _, _, [], ?wk4, k2 + 1, oM, fun x b' hx hb' => ?_, rfl, rfl, rfl⟩
     case wk4 => exact ⟨(by repeat (first|exact trivial|refine ⟨by first|rfl|exact cgI oM oM, rfl, ?_⟩)), ⟨rfl, rfl, rfl, rfl, rfl, rfl, rfl, rfl, rfl, rfl, rfl, rfl, rfl, rfl, rfl, rfl, rfl, rfl, trivial⟩, rfl, rfl⟩
     by_cases hxk : x = k2
     ·subst hxk
      rw [hb] at hb'
      obtain rfl := Option.some.inj hb'
      rw [clashP_comm]; exact hd
     ·exact hok x b' oM hb'
   ·have hk2 : k2 = l.length := by have := of_decide_eq_false hk2; omega
    subst hk2
    have hfree : freeK p.gap l q l.length = true := freeK_iff.2 fun x b hb => hok x b (List.getElem?_eq_some_iff.1 hb).1 hb
    have hqC : q ∈ (all[l.length]?).getD [] := by rw [hCg]; exact List.mem_of_getElem? hq
    have hstep : stepF p.gap all n l q = srch p.gap all n (l ++ [q]) := by rw [stepF, if_pos hfree]
    have hsnf : (l ++ [q]).flatMap ptF = l.flatMap ptF ++ ptF q := by simp
    have hfl1 : (l.flatMap ptF ++ ptF q).length = (l.length + 1) * 2 := by rw [List.length_append, hlf, show (ptF q).length = 2 from rfl]; omega
    refine goD ?_; intros
    refine dw_app (k := 5) (m := 1) (q := ptF q) rfl rfl rfl hD ⟨rfl, rfl, _, rfl, rfl⟩ oM oM (by decide) rfl ?_
    refine goD ?_; intros
    refine dw_cxva (E0 := [(0, .one (.ptr 0 0)), (1, .one (.ptr 1 0)), (2, .one (.ptr 2 0)), (3, .one (.ptr 3 0)), (4, .one (.ptr 4 0)), (7, .int l.length), (8, wordD B), (27, ptsD C), (28, .int C.length), (29, .int j), (56, .one (.fn 45 caps5))]) (S0 := envS p A all k (l.length + 1) (l.flatMap ptF ++ ptF q)) (n0 := 6) (a := 5) [(5, 7)] ⟨(by repeat (first|exact trivial|refine ⟨by first|rfl|exact cgI (by omega) (by omega), rfl, ?_⟩)), ⟨rfl, rfl, rfl, rfl, rfl, rfl, rfl, rfl, rfl, rfl, rfl, rfl, rfl, rfl, rfl, rfl, rfl, rfl, trivial⟩, rfl, rfl⟩ rfl is45 rfl rfl rfl ⟨(by repeat (first|exact trivial|refine ⟨by first|rfl|exact cgI (by omega) (by omega), rfl, ?_⟩)), trivial, rfl, rfl⟩ (ih q hfree hqC hkN hat (by rw [hsnf]; exact subL_all _ hfl1) _ _ _ _ _ (Nat.le_refl _)) ?_
    intro d S' nk' hR
    cases hR with
    | found k' D' hlen hsub =>
     refine goD ?_; intros
     refine ds_if rfl (fun _ => ?_) (fun h => by cases h)
     refine goD ?_; intros
     have hCf := FailC.step (n := n) hL (by omega) hkN hF fun c hc => by rw [hCg]; exact List.mem_of_mem_take hc
     have hs1 : srch p.gap all (n + 1) l = srch p.gap all n (l ++ [q]) := by
      rw [srch_eq, hCg, tryL_at hq hCf (by rw [hstep]; exact hlen), hstep]
     exact ds_ret ⟨_, rfl, rfl, _, SubA.refl _, .found k' D' (by rw [hs1]; exact hlen) (by rw [hs1]; exact hsub)⟩
    | fail k' W D' hW hk1 hk2 hk3 hat' hFS hsub =>
     rw [List.length_append, List.length_singleton] at hk2 hsub
     rw [List.length_append, List.length_singleton]
     have hD2 : subL D' 0 (l.length * 2) = some (l.flatMap ptF) := by
      refine subL_pre hsub ?_
      rw [hsnf, subL_of (by rw [hfl1]; omega), List.drop_zero, <- hlf, List.take_left]
     have hF2 : FailC p.gap all k' B l (C.take j) := hF.mono hk1 fun _ _ h => h
     refine goD ?_; intros
     refine ds_if rfl (fun h => by cases h) (fun _ => ?_)
     refine goD ?_; intros
     refine dw_slo (o' := 0) (n' := l.length) rfl rfl rfl (Nat.zero_le _) oM oM oM ?_
     refine goD ?_; intros
     rw [v_shr (a := W) (k := l.length) hi8, v_and1 (a := W / 2 ^ l.length) (Nat.lt_of_le_of_lt (Nat.div_le_self _ _) hW), bit0]
     refine ds_if rfl (fun hb => ?_) (fun hb => ?_)
     ·refine goD ?_; intros
      exact ds_ret ⟨_, rfl, rfl, _, SubA.refl _, .fail k' W D' hW (by omega) (by omega) hk3 hat' (hFS.drop (by simpa using hb)) hD2⟩
     ·refine goD ?_; intros
      rw [v_shl (k := l.length) hi8, v_andNot (i := l.length) hW, v_or hB (dropB_lt hW)]
      refine ⟨m - 1, oM, _, _, _, [], ?wk5, j + 1, B ||| dropB W l.length, k', D', oM, or_lt8 hB (dropB_lt hW), oM, oM, hk3, hat', ?_, hD2, rfl, rfl, rfl⟩
      case wk5 => exact ⟨(by repeat (first|exact trivial|refine ⟨by first|rfl|exact cgI oM oM, rfl, ?_⟩)), ⟨rfl, rfl, rfl, rfl, rfl, rfl, rfl, rfl, rfl, rfl, rfl, rfl, rfl, rfl, rfl, rfl, rfl, rfl, trivial⟩, rfl, rfl⟩
      rw [htk]
      refine FailC.fail (hF2.mono (Nat.le_refl _) fun x _ hx => ?_) hFS fun x hx hxW => ?_
      ·rw [Nat.testBit_or, hx, Bool.true_or]
      ·rw [Nat.testBit_or, dropB_bit hW hi8 (by omega) (by omega) hxW, Bool.or_true]
  ·have hj2 : j = C.length := by have := of_decide_eq_false hj2; omega
   subst hj2
   rw [List.take_length] at hF
   refine goD ?_; intros
   exact ds_ret ⟨_, rfl, rfl, _, SubA.refl _, .fail k B D hB hmk hlk hkN hat (hF.end hC hlk) hD⟩
theorem ds_shrink {p : Par} {n : Nat} {Q : Exit -> DEnv -> Bx -> Nat -> Prop} {E : DEnv} {S : Bx} {nk : Nat} {s : SC} (k m : Nat) {l : List FD} (hk : lk S k = some (.data l)) (h : DPS p n s Q E (put k (.data (l.take m)) S) nk) : DPS p n s Q E S nk := .mk fun Z β H F hS hE => by
 refine h.run Z β H F ?_ hE
 refine ⟨hS.wf, hS.lo, hS.z, hS.zlo, hS.zz, hS.glob, hS.nk, hS.bd, fun κ x hκ => ?_, fun κ κ' x x' b N N' hj hj' => ?_, hS.blo, hS.anch, hS.ancn⟩
 ·rw [lk2_put hk rfl] at hκ
  split at hκ
  ·rename_i e
   split at hκ
   ·rename_i e2
    obtain rfl := key_eq e e2
    obtain rfl := Option.some.inj hκ
    obtain ⟨s, hs, hbx⟩ := hS.box (k, 0) _ (lk2_of hk rfl)
    refine ⟨s, hs, ?_⟩
    cases s with
    | nil =>
     have : l.length = 0 := hbx
     show (l.take m).length = 0
     rw [List.length_take, this]; simp
    | blk b N =>
     obtain ⟨h1, h2, h3, cs, rest, h4, h5, h6⟩ := hbx
     refine ⟨h1, h2, h3, cs.take m, cs.drop m ++ rest, ?_, ?_, All2.take h6 m⟩
     ·rw [<- List.append_assoc, List.take_append_drop]; exact h4
     ·rw [<- List.append_assoc, List.take_append_drop]; exact h5
   ·cases hκ
  ·exact hS.box κ x hκ
 ·have f : ∀ i z, lk (put k (.data (l.take m)) S) i = some z -> ∃ z', lk S i = some z' := fun i z hz => by
   rw [lk_put] at hz
   split at hz
   ·cases hl : lk S i with
    | none => rw [hl] at hz; cases hz
    | some q => exact ⟨q, rfl⟩
   ·exact ⟨z, hz⟩
  obtain ⟨z1, e1⟩ := f _ x hj
  obtain ⟨z2, e2⟩ := f _ x' hj'
  exact hS.inj κ κ' z1 z2 b N N' e1 e2
def filT (l : List FD) (k : Nat) : List FD := l.take k ++ List.replicate (l.length - k) (.c .nils)
theorem filT_set {l : List FD} {k : Nat} {x : FD} (h : l[k]? = some x) : (filT l k).set k x = filT l (k + 1) := by
 have hk := (List.getElem?_eq_some_iff.1 h).1
 have h1 : (l.take k).length = k := by rw [List.length_take]; omega
 unfold filT
 rw [List.set_append_right _ _ (by omega), h1, Nat.sub_self, show l.length - k = (l.length - (k + 1)) + 1 by omega, List.replicate_succ, List.set_cons_zero, List.take_add_one, h]
 simp
theorem filT_len {l : List FD} {k : Nat} (h : k <= l.length) : (filT l k).length = l.length := by
 unfold filT
 rw [List.length_append, List.length_take, List.length_replicate]; omega
theorem alls_at {p : Pic} {n j : Nat} (h : j < n) : (alls p n)[j]? = some (candP p j) := by simp [alls, h]
theorem plc_pre {p : Pic} {n j : Nat} {L : List Pt2} (h : LegL p.gap (alls p n) L) (hj : j < L.length) : ¬ (sAt p j).length <= j := by
 have hn := h.le
 rw [alls_len] at hn
 have hl : (L.take (j + 1)).length = j + 1 := by rw [List.length_take]; omega
 have h1 : LegL p.gap (alls p (j + 1)) (L.take (j + 1)) := (h.take (j + 1)).all (by rw [hl, alls_len]; omega) fun i hi => by
  rw [hl] at hi
  rw [alls_at (by omega), alls_at (by omega)]
 have h2 := srch_complete h1 (by rw [hl, alls_len]) (n := j + 1) (i := 0) (by rw [alls_len]; omega)
 rw [alls_len, List.take_zero] at h2
 unfold sAt
 omega
theorem plc_ok {p : Pic} (h1 : 1 <= p.fs.length) (hl : (srch p.gap (alls p p.fs.length) p.fs.length []).length = p.fs.length) : PlcR p (srch p.gap (alls p p.fs.length) p.fs.length [], (p.fs.length : Int), 0) := by
 have hs := (srch_sound (LegL.nil p.gap (alls p p.fs.length)) (n := p.fs.length) (by rw [alls_len]; simp) (by rw [hl, alls_len])).1
 have he : srch p.gap (alls p p.fs.length) p.fs.length [] = sAt p (p.fs.length - 1) := by
  obtain ⟨k, hk⟩ : ∃ k, p.fs.length = k + 1 := ⟨p.fs.length - 1, oM⟩
  rw [hk]
  rfl
 have hok := PlcR.ok (p := p) fun j hj => plc_pre hs oM
 rw [<- he, hl] at hok
 exact hok
theorem plc_bad {p : Pic} {k B : Nat} (hk : k < p.fs.length) (ha : AttL p (alls p p.fs.length) k) (hF : FailS p.gap (alls p p.fs.length) k B []) : PlcR p ([], (k : Int), 150) := by
 obtain ⟨L, hL, hlen⟩ := ha
 refine .bad k hk ?_ fun j hj => plc_pre hL oM
 rcases srch_len (g := p.gap) (all := alls p (k + 1)) (n := k + 1) (l := []) (by rw [alls_len]; simp) with h|h
 ·exfalso
  rw [alls_len] at h
  have hs := (srch_sound (LegL.nil p.gap (alls p (k + 1))) (n := k + 1) (by rw [alls_len]; simp) (by rw [h, alls_len])).1
  have h2 : LegL p.gap (alls p p.fs.length) (srch p.gap (alls p (k + 1)) (k + 1) []) := hs.all (by rw [h, alls_len]; omega) fun i hi => by
   rw [h] at hi
   rw [alls_at (by omega), alls_at (by omega)]
  exact hF _ h2 (by omega) fun j hj => by simp at hj
 ·unfold sAt
  rw [h]
  simp
def plcT (r : Plc) : DV := .tup [ptsD r.1, .int r.2.1, .int r.2.2]
set_option maxHeartbeats 16000000 in
theorem d_lplace {p : Pic} (hFi : Fine p) (hFe : Few p) : DK 30 [picD p] fun d => ∃ r, (validPic p = true -> PlcR p r) /\ (validPic p = false -> r = ([], 0, 150)) /\ d = plcT r := by
 refine dfn_ok cp30 rfl GHro fun Z0 lo => ?_
 have hcv := d_apvalid hFi
 refine ds_seq ?_
 refine ds_ops mix (fun base => ?_)
 refine dw_a rfl ?_
 refine dw_p rfl ?_
 refine dw_p rfl ?_
 refine dw_p rfl ?_
 refine dw_nil ?_
 refine ds_frzP 0 (fs := picF p) rfl ?_
 refine goD ?_; intros
 refine dw_cf rfl rfl hcv ?_
 rintro _ rfl
 cases hv : validPic p with
 | false =>
  refine goD ?_; intros
  refine ds_if rfl (fun _ => ?_) (fun h => by cases h)
  refine goD ?_; intros
  refine ds_nil 2 2 rfl ?_
  exact ds_ret ⟨_, rfl, rfl, ([], 0, 150), fun h => (by cases h), fun _ => rfl, rfl⟩
 | true =>
  have hl8 := (validPic_fs hv).1
  refine goD ?_; intros
  refine ds_if rfl (fun h => by cases h) (fun _ => ?_)
  refine goD ?_; intros
  refine dw_cf rfl rfl (d_survey hv) ?_
  rintro _ ⟨A, hA, rfl⟩
  refine goD ?_; intros
  refine dw_mk (n := p.fs.length) (m := p.fs.length) [.c .nils] rfl rfl ⟨rfl, rfl, trivial⟩ rfl (by decide) (Nat.le_refl _) oM oM ?_
  refine goD ?_; intros
  have hal := alls_len p p.fs.length
  have hml : ((alls p p.fs.length).map ptsF).length = p.fs.length := by rw [List.length_map, hal]
  refine ds_loop (fun m E S nk => ∃ i : Nat, i + m = p.fs.length /\ E = [(5, .one (.ptr 1 0)), (6, .one (.ptr 3 0)), (23, .int p.fs.length), (24, .int i)] /\ S = [(1, .cells [.fptr (siteF p (ptsOf p).length ((ptsOf p).map rowPt) A)]), (2, .data (filT ((alls p p.fs.length).map ptsF) i)), (3, .cells [.own 2 0 p.fs.length 1])] /\ nk = 4)
   ⟨p.fs.length, _, _, _, [], ?wk, 0, oM, rfl, rfl, rfl⟩ ?_
  case wk => exact ⟨(by repeat (first|exact trivial|refine ⟨by first|rfl|exact cgI (by omega) (by omega), rfl, ?_⟩)), ⟨rfl, rfl, rfl, by rw [filT, hml, reps'_one]; rfl, rfl, rfl, rfl, rfl, rfl, trivial⟩, rfl, rfl⟩
  rintro m E S nk ⟨i, hi, rfl, rfl, rfl⟩
  refine goD ?_; intros
  refine ds_if rfl (fun hi2 => ?_) (fun hi2 => ?_)
  ·have hi2 : i < p.fs.length := by have := of_decide_eq_true hi2; omega
   have hx : ((alls p p.fs.length).map ptsF)[i]? = some (ptsF (candP p i)) := by rw [List.getElem?_map, alls_at hi2]; rfl
   have hset := filT_set hx
   refine goD ?_; intros
   refine dw_cf rfl rfl (d_choices hv hFe hA hi2) ?_
   rintro _ rfl
   refine goD ?_; intros
   refine dw_st (k := 2) (o := i) (l := [.f (ptsF (candP p i))]) rfl rfl rfl rfl rfl (show i + 1 <= (filT ((alls p p.fs.length).map ptsF) i).length by rw [filT_len (by omega), hml]; omega) rfl ?_
   rw [show stB (.data (filT ((alls p p.fs.length).map ptsF) i)) i [.f (ptsF (candP p i))] = .data (filT ((alls p p.fs.length).map ptsF) (i + 1)) from congrArg Bk.data hset]
   refine goD ?_; intros
   refine ⟨m - 1, oM, _, _, _, [], ?wk2, i + 1, oM, rfl, rfl, rfl⟩
   case wk2 => exact ⟨(by repeat (first|exact trivial|refine ⟨by first|rfl|exact cgI oM oM, rfl, ?_⟩)), ⟨rfl, rfl, rfl, rfl, rfl, rfl, rfl, rfl, rfl, trivial⟩, rfl, rfl⟩
  ·have hi2 : i = p.fs.length := by have := of_decide_eq_false hi2; omega
   subst hi2
   have hfil : filT ((alls p p.fs.length).map ptsF) p.fs.length = (alls p p.fs.length).map ptsF := by rw [filT, hml, List.take_of_length_le (by omega)]; simp
   rw [hfil]
   have hfl : ((alls p p.fs.length).map ptsF).length = p.fs.length * 1 := by omega
   refine ds_frz 2 rfl okZ okZ ?_
   refine ds_exit ?_
   refine ds_seq ?_
   refine ds_ops mix (fun base => ?_)
   refine dw_a rfl ?_
   refine dw_nil ?_
   refine ds_virtC 4 0 2 rfl rfl ?_
   refine goD ?_; intros
   have htry := x_try (p := p) (A := A) (all := alls p p.fs.length) (by rw [hal]; exact hl8) (fun c hc => by
    obtain ⟨k, hk, rfl⟩ := List.mem_map.1 hc
    exact candP_small hv k) p.fs.length (l := []) (i := 0) (mst := 0) (D := []) rfl (by rw [hal]; omega) (LegL.nil _ _) (by rw [hal]; omega) ⟨[], LegL.nil _ _, rfl⟩ rfl
   refine dw_cxva (E0 := [(8, .one (.ptr 0 0)), (9, .one (.ptr 1 0)), (36, .one (.fn 45 caps5))]) (S0 := envS p A (alls p p.fs.length) 0 0 []) (n0 := 6) (a := 5) [(0, 4), (1, 6), (2, 3), (3, 1), (4, 7), (5, 5)] ⟨(by repeat (first|exact trivial|refine ⟨by first|rfl|exact cgI (by omega) (by omega), rfl, ?_⟩)), ⟨rfl, rfl, rfl, rfl, rfl, rfl, by rw [hal]; rfl, rfl, rfl, rfl, rfl, rfl, rfl, rfl, rfl, rfl, rfl, rfl, trivial⟩, rfl, rfl⟩ rfl is45 rfl rfl rfl ⟨(by repeat (first|exact trivial|refine ⟨by first|rfl|exact cgI (by omega) (by omega), rfl, ?_⟩)), trivial, rfl, rfl⟩ (htry _ _ _ _ _ (Nat.zero_le _)) ?_
   intro d S' nk' hR
   cases hR with
   | found k D hlen hsub =>
    rw [hal] at hlen hsub ⊢
    have hpl := plc_ok hl8.1 hlen
    have hfl2 := ptF_len (srch p.gap (alls p p.fs.length) p.fs.length [])
    rw [hlen] at hfl2
    obtain ⟨hs1, hs2⟩ := subL_some hsub
    rw [List.drop_zero] at hs2
    have hpd : ptsD (srch p.gap (alls p p.fs.length) p.fs.length []) = .one (.f (.sl 2 p.fs.length (D.take (p.fs.length * 2)))) := by rw [ptsD, hlen, hs2]
    have hfl3 : (D.take (p.fs.length * 2)).length = p.fs.length * 2 := by rw [<- hs2]; exact hfl2
    refine goD ?_; intros
    refine ds_if rfl (fun h => by cases h) (fun _ => ?_)
    refine goD ?_; intros
    refine ds_keep (SubA.cons (k := 2) rfl (SubA.cons (k := 3) rfl (SubA.cons (k := 4) rfl (SubA.nil _)))) (SubA.cons (k := 5) rfl (SubA.nil _)) ?_
    refine ds_shrink 5 (p.fs.length * 2) rfl ?_
    refine ds_frz 5 rfl okZ okZ ?_
    refine ds_ret ⟨_, rfl, rfl, _, fun _ => hpl, fun h => (by cases h), ?_⟩
    rw [plcT, hpd]
    rfl
   | fail k B D hB h1 h2 h3 ha hF hD =>
    rw [hal] at h3
    have hpl := plc_bad h3 ha hF
    refine goD ?_; intros
    refine ds_if rfl (fun _ => ?_) (fun h => by cases h)
    refine goD ?_; intros
    refine ds_nil 2 2 rfl ?_
    exact ds_ret ⟨_, rfl, rfl, _, fun _ => hpl, fun h => (by cases h), rfl⟩
structure Rw where
 x0 : Int
 x1 : Int
 x2 : Int
 x3 : Int
 x4 : Int
 x5 : Int
def rwF (x : Rw) : List FD := [.c (.int .u8 x.x0), .c (.int .u8 x.x1), .c (.int .u8 x.x2), .c (.int .u8 x.x3), .c (.int .u8 x.x4), .c (.int .u8 x.x5)]
def rwD (x : Rw) : DV := .agg ((rwF x).map .f)
def isB (n : Int) : Prop := 0 <= n /\ n < 256
def Rw.ok (x : Rw) : Prop := (isB x.x0 /\ isB x.x1 /\ isB x.x2) /\ isB x.x3 /\ isB x.x4 /\ isB x.x5
def fA (x : Rw) (w : Int) : Int := x.x1.tmod w
def fB (x : Rw) (h : Int) : Int := x.x2.tmod h
def fR (x : Rw) (w : Int) : Int := min (fA x w + (1 + x.x3.tmod 8)) (w - 1)
def fL (x : Rw) (h : Int) : Int := min (fB x h + (1 + x.x4.tmod 8)) (h - 1)
def featM (x : Rw) (w h : Int) : Ft :=
 if x.x0.tmod 3 = 0 then ⟨1, 0, [(fA x w, fB x h)]⟩
 else if x.x0.tmod 3 = 1 then ⟨2, 0, [(fA x w, fB x h), (fR x w, fL x h)] ++ if x.x5.tmod 2 = 1 then [(fA x w, fL x h)] else []⟩
 else ⟨3, (x.x0.tdiv 3).tmod 4, [(fA x w, fB x h), (fR x w, fB x h), (fR x w, fL x h)] ++ if x.x5.tmod 2 = 1 then [(fA x w, fL x h)] else []⟩
set_option maxHeartbeats 4000000 in
theorem d_feature {x : Rw} {w h : Int} (hx : x.ok) (hw : 4 <= w /\ w <= 60) (hh : 3 <= h /\ h <= 60) : DK 41 [rwD x, .int w, .int h] fun d => d = ftD (featM x w h) := by
 refine dfn_ok cp41 rfl GHro fun Z0 lo => ?_
 obtain ⟨⟨hx0, hx1, hx2⟩, hx3, hx4, hx5⟩ := hx
 unfold isB at *
 have w1 : IntKind.i64.wrap x.x1 = x.x1 := dwrap oM oM
 have w2 : IntKind.i64.wrap x.x2 = x.x2 := dwrap oM oM
 have w3 : IntKind.i64.wrap x.x3 = x.x3 := dwrap oM oM
 have w4 : IntKind.i64.wrap x.x4 = x.x4 := dwrap oM oM
 have t1 : 0 <= x.x1.tmod w /\ x.x1.tmod w < w := ⟨Int.tmod_nonneg _ hx1.1, Int.tmod_lt_of_pos _ oM⟩
 have t2 : 0 <= x.x2.tmod h /\ x.x2.tmod h < h := ⟨Int.tmod_nonneg _ hx2.1, Int.tmod_lt_of_pos _ oM⟩
 have t3 : 0 <= x.x3.tmod 8 /\ x.x3.tmod 8 < 8 := ⟨Int.tmod_nonneg _ hx3.1, Int.tmod_lt_of_pos _ oM⟩
 have t4 : 0 <= x.x4.tmod 8 /\ x.x4.tmod 8 < 8 := ⟨Int.tmod_nonneg _ hx4.1, Int.tmod_lt_of_pos _ oM⟩
 refine goD ?_; intros
 rw [w1]
 refine dw_rem rfl rfl oM ?_
 refine goD ?_; intros
 rw [w2]
 refine dw_rem rfl rfl oM ?_
 refine goD ?_; intros
 have q1 : 0 <= x.x0.tdiv 3 /\ x.x0.tdiv 3 < 256 := by rw [Int.tdiv_eq_ediv_of_nonneg hx0.1]; omega
 have u1 : IntKind.u8.wrap (x.x0.tdiv 3) = x.x0.tdiv 3 := by
  simp [IntKind.wrap, IntKind.signed, IntKind.bits]
  omega
 have t5 : 0 <= (x.x0.tdiv 3).tmod 4 /\ (x.x0.tdiv 3).tmod 4 < 4 := ⟨Int.tmod_nonneg _ q1.1, Int.tmod_lt_of_pos _ oM⟩
 have t6 : 0 <= x.x0.tmod 3 /\ x.x0.tmod 3 < 3 := ⟨Int.tmod_nonneg _ hx0.1, Int.tmod_lt_of_pos _ oM⟩
 have hK : IntKind.i64.wrap (1 + IntKind.i64.wrap (x.x0.tmod 3)) = 1 + x.x0.tmod 3 := by rw [dwrap (n := x.x0.tmod 3) (by omega) (by omega), dwrap (by omega) (by omega)]
 have hT : IntKind.i64.wrap ((IntKind.u8.wrap (x.x0.tdiv 3)).tmod 4) = (x.x0.tdiv 3).tmod 4 := by rw [u1, dwrap (by omega) (by omega)]
 have hR : min (IntKind.i64.wrap (x.x1.tmod w + IntKind.i64.wrap (1 + (IntKind.i64.wrap x.x3).tmod 8))) (IntKind.i64.wrap (w - 1)) = fR x w := by
  rw [w3, dwrap (n := 1 + x.x3.tmod 8) (by omega) (by omega), dwrap (n := x.x1.tmod w + (1 + x.x3.tmod 8)) (by omega) (by omega), dwrap (n := w - 1) (by omega) (by omega)]
  rfl
 have hL : min (IntKind.i64.wrap (x.x2.tmod h + IntKind.i64.wrap (1 + (IntKind.i64.wrap x.x4).tmod 8))) (IntKind.i64.wrap (h - 1)) = fL x h := by
  rw [w4, dwrap (n := 1 + x.x4.tmod 8) (by omega) (by omega), dwrap (n := x.x2.tmod h + (1 + x.x4.tmod 8)) (by omega) (by omega), dwrap (n := h - 1) (by omega) (by omega)]
  rfl
 refine ds_keep (E0 := [(3, .one (.ptr 0 0)), (6, .one (.ptr 1 0)), (7, .int (fA x w)), (8, .int (fB x h)), (11, .int (fR x w)), (12, .int (fL x h)), (13, .one (.ptr 2 0)), (14, .one (.ptr 3 0)), (15, .int (1 + x.x0.tmod 3)), (16, .int ((x.x0.tdiv 3).tmod 4)), (68, .bool (1 + x.x0.tmod 3 == 1))])
  (S0 := [(0, .cells ((rwF x).map .f)), (1, .cells [.f (.c (.int .i64 0)), .f (.c (.int .i64 0)), .f (.c .nils)]), (2, .cells [.f (.c (.int .i64 (fA x w))), .f (.c (.int .i64 (fB x h)))]), (3, .cells [.f (.c (.int .i64 (fR x w))), .f (.c (.int .i64 (fL x h)))])])
  (SubA.cons rfl (SubA.cons rfl (SubA.cons rfl (SubA.cons rfl (SubA.cons (congrArg (fun z => some (DV.int z)) hR) (SubA.cons (congrArg (fun z => some (DV.int z)) hL) (SubA.cons rfl (SubA.cons rfl (SubA.cons (congrArg (fun z => some (DV.int z)) hK) (SubA.cons (congrArg (fun z => some (DV.int z)) hT) (SubA.cons (congrArg (fun z => some (DV.bool (z == 1))) hK) (SubA.nil _))))))))))))
  (SubA.cons rfl (SubA.cons rfl (SubA.cons rfl (SubA.cons (by rw [<- hR, <- hL]; rfl) (SubA.nil _))))) ?_
 refine ds_if rfl (fun h1 => ?_) (fun h1 => ?_)
 ·have h1 : x.x0.tmod 3 = 0 := by have : 1 + x.x0.tmod 3 = 1 := by simpa using h1
                                  omega
  refine goD ?_; intros
  refine ds_keep (E0 := [(6, .one (.ptr 1 0))]) (S0 := [(1, .cells [.f (.c (.int .i64 (1 + x.x0.tmod 3))), .f (.c (.int .i64 0)), .own 4 0 1 2]), (4, .data (ptF (fA x w, fB x h)))]) (SubA.cons rfl (SubA.nil _)) (SubA.cons rfl (SubA.cons rfl (SubA.nil _))) ?_
  refine ds_frz 4 rfl okZ okZ ?_
  refine ds_ret ⟨_, rfl, rfl, ?_⟩
  rw [featM, if_pos h1, h1]
  rfl
 ·have h1 : ¬ x.x0.tmod 3 = 0 := fun h => by rw [h] at h1; simp at h1
  refine goD ?_; intros
  refine ds_if rfl (fun h2 => ?_) (fun h2 => ?_)
  ·have h2 : x.x0.tmod 3 = 1 := by have : 1 + x.x0.tmod 3 = 2 := by simpa using h2
                                   omega
   refine goD ?_; intros
   refine ds_if rfl (fun h5 => ?_) (fun h5 => ?_)
   ·have h5 : x.x5.tmod 2 = 1 := by simpa using h5
    refine goD ?_; intros
    refine dw_app (m := 1) (q := ptF (fA x w, fL x h)) (l := ptF (fA x w, fB x h) ++ ptF (fR x w, fL x h)) rfl rfl rfl rfl ⟨rfl, rfl, _, rfl, rfl⟩ oM oM (by decide) rfl ?_
    refine goD ?_; intros
    refine ds_keep (E0 := [(6, .one (.ptr 1 0))]) (S0 := [(1, .cells [.f (.c (.int .i64 (1 + x.x0.tmod 3))), .f (.c (.int .i64 0)), .own 6 0 3 2]), (6, .data [.c (.int .i64 (fA x w)), .c (.int .i64 (fB x h)), .c (.int .i64 (fR x w)), .c (.int .i64 (fL x h)), .c (.int .i64 (fA x w)), .c (.int .i64 (fL x h))])]) (SubA.cons rfl (SubA.nil _)) (SubA.cons rfl (SubA.cons rfl (SubA.nil _))) ?_
    refine ds_frz 6 rfl okZ okZ ?_
    refine ds_ret ⟨_, rfl, rfl, ?_⟩
    rw [featM, if_neg h1, if_pos h2, if_pos h5, h2]
    rfl
   ·have h5 : ¬ x.x5.tmod 2 = 1 := by simpa using h5
    refine goD ?_; intros
    refine ds_keep (E0 := [(6, .one (.ptr 1 0))]) (S0 := [(1, .cells [.f (.c (.int .i64 (1 + x.x0.tmod 3))), .f (.c (.int .i64 0)), .own 4 0 2 2]), (4, .data [.c (.int .i64 (fA x w)), .c (.int .i64 (fB x h)), .c (.int .i64 (fR x w)), .c (.int .i64 (fL x h))])]) (SubA.cons rfl (SubA.nil _)) (SubA.cons rfl (SubA.cons rfl (SubA.nil _))) ?_
    refine ds_frz 4 rfl okZ okZ ?_
    refine ds_ret ⟨_, rfl, rfl, ?_⟩
    rw [featM, if_neg h1, if_pos h2, if_neg h5, h2]
    rfl
  ·have h2 : ¬ x.x0.tmod 3 = 1 := fun h => by rw [h] at h2; simp at h2
   have h3 : x.x0.tmod 3 = 2 := by omega
   refine goD ?_; intros
   refine ds_if rfl (fun h5 => ?_) (fun h5 => ?_)
   ·have h5 : x.x5.tmod 2 = 1 := by simpa using h5
    refine goD ?_; intros
    refine dw_app (m := 1) (q := ptF (fA x w, fL x h)) (l := ptF (fA x w, fB x h) ++ ptF (fR x w, fB x h) ++ ptF (fR x w, fL x h)) rfl rfl rfl rfl ⟨rfl, rfl, _, rfl, rfl⟩ oM oM (by decide) rfl ?_
    refine goD ?_; intros
    refine ds_keep (E0 := [(6, .one (.ptr 1 0))]) (S0 := [(1, .cells [.f (.c (.int .i64 (1 + x.x0.tmod 3))), .f (.c (.int .i64 ((x.x0.tdiv 3).tmod 4))), .own 6 0 4 2]), (6, .data [.c (.int .i64 (fA x w)), .c (.int .i64 (fB x h)), .c (.int .i64 (fR x w)), .c (.int .i64 (fB x h)), .c (.int .i64 (fR x w)), .c (.int .i64 (fL x h)), .c (.int .i64 (fA x w)), .c (.int .i64 (fL x h))])]) (SubA.cons rfl (SubA.nil _)) (SubA.cons rfl (SubA.cons rfl (SubA.nil _))) ?_
    refine ds_frz 6 rfl okZ okZ ?_
    refine ds_ret ⟨_, rfl, rfl, ?_⟩
    rw [featM, if_neg h1, if_neg h2, if_pos h5, h3]
    rfl
   ·have h5 : ¬ x.x5.tmod 2 = 1 := by simpa using h5
    refine goD ?_; intros
    refine ds_keep (E0 := [(6, .one (.ptr 1 0))]) (S0 := [(1, .cells [.f (.c (.int .i64 (1 + x.x0.tmod 3))), .f (.c (.int .i64 ((x.x0.tdiv 3).tmod 4))), .own 4 0 3 2]), (4, .data [.c (.int .i64 (fA x w)), .c (.int .i64 (fB x h)), .c (.int .i64 (fR x w)), .c (.int .i64 (fB x h)), .c (.int .i64 (fR x w)), .c (.int .i64 (fL x h))])]) (SubA.cons rfl (SubA.nil _)) (SubA.cons rfl (SubA.cons rfl (SubA.nil _))) ?_
    refine ds_frz 4 rfl okZ okZ ?_
    refine ds_ret ⟨_, rfl, rfl, ?_⟩
    rw [featM, if_neg h1, if_neg h2, if_neg h5, h3]
    rfl
structure Raw where
 w : Int
 h : Int
 g : Int
 f : List Rw
def Raw.ok (x : Raw) : Prop := (isB x.w /\ isB x.h /\ isB x.g) /\ ∀ r ∈ x.f, r.ok
def rawC (x : Raw) : List DC := [.f (.c (.int .u8 x.w)), .f (.c (.int .u8 x.h)), .f (.c (.int .u8 x.g)), .f (.sl 6 x.f.length (x.f.flatMap rwF))]
def rawD (x : Raw) : DV := .agg (rawC x)
def mW (x : Raw) : Int := 12 + 2 * x.w.tmod 13
def mH (x : Raw) : Int := 12 + 3 * x.h.tmod 9
def mG (x : Raw) : Int := 2 + x.g.tmod 3
def oneF : Ft := ⟨1, 0, [(1, 1)]⟩
def mF (x : Raw) : List Ft := match (x.f.take 4).map (fun r => featM r (mW x) (mH x)) with
 | [] => [oneF]
 | l => l
def madeP14 (x : Raw) : Pic := ⟨mW x, mH x, mG x, mF x⟩
theorem rwF_at {l : List Rw} {i : Nat} {x : Rw} (h : l[i]? = some x) : subL (l.flatMap rwF) (i * 6) 6 = some (rwF x) := subL_flat (e := 6) (fun _ => rfl) h
set_option maxHeartbeats 4000000 in
theorem d_made {x : Raw} (hx : x.ok) : DK 28 [rawD x] fun d => d = picD (madeP14 x) := by
 refine dfn_ok cp28 rfl GHro fun Z0 lo => ?_
 obtain ⟨⟨hw, hh, hg⟩, hf⟩ := hx
 unfold isB at hw hh hg
 have t1 : 0 <= x.w.tmod 13 /\ x.w.tmod 13 < 13 := ⟨Int.tmod_nonneg _ hw.1, Int.tmod_lt_of_pos _ oM⟩
 have t2 : 0 <= x.h.tmod 9 /\ x.h.tmod 9 < 9 := ⟨Int.tmod_nonneg _ hh.1, Int.tmod_lt_of_pos _ oM⟩
 have t3 : 0 <= x.g.tmod 3 /\ x.g.tmod 3 < 3 := ⟨Int.tmod_nonneg _ hg.1, Int.tmod_lt_of_pos _ oM⟩
 have hW : IntKind.i64.wrap (12 + IntKind.i64.wrap (2 * IntKind.i64.wrap (x.w.tmod 13))) = mW x := by
  rw [dwrap (n := x.w.tmod 13) (by omega) (by omega), dwrap (n := 2 * x.w.tmod 13) (by omega) (by omega), dwrap (by omega) (by omega)]; rfl
 have hH : IntKind.i64.wrap (12 + IntKind.i64.wrap (3 * IntKind.i64.wrap (x.h.tmod 9))) = mH x := by
  rw [dwrap (n := x.h.tmod 9) (by omega) (by omega), dwrap (n := 3 * x.h.tmod 9) (by omega) (by omega), dwrap (by omega) (by omega)]; rfl
 have hG : IntKind.i64.wrap (2 + IntKind.i64.wrap (x.g.tmod 3)) = mG x := by
  rw [dwrap (n := x.g.tmod 3) (by omega) (by omega), dwrap (by omega) (by omega)]; rfl
 refine goD ?_; intros
 refine ds_keep (E0 := [(1, .one (.ptr 0 0)), (2, .one (.ptr 1 0)), (3, .one (.ptr 2 0)), (4, .int 0)])
  (S0 := [(0, .cells (rawC x)), (1, .cells [.f (.c (.int .i64 0)), .f (.c (.int .i64 0)), .f (.c (.int .i64 0)), .f (.c .nils)]), (2, .cells [.f (.c (.int .i64 (mW x))), .f (.c (.int .i64 (mH x))), .f (.c (.int .i64 (mG x))), .f (.c .nils)])])
  (SubA.cons rfl (SubA.cons rfl (SubA.cons rfl (SubA.cons rfl (SubA.nil _)))))
  (SubA.cons rfl (SubA.cons rfl (SubA.cons (by rw [<- hW, <- hH, <- hG]; rfl) (SubA.nil _)))) ?_
 refine ds_virtD 2 3 3 rfl rfl ?_
 refine ds_loop (fun m E S nk => ∃ (i : Nat) (out : List Ft), i + m = min x.f.length 4 /\ out = (x.f.take i).map (fun r => featM r (mW x) (mH x)) /\ E = [(1, .one (.ptr 0 0)), (2, .one (.ptr 1 0)), (3, .one (.ptr 2 0)), (4, .int i)] /\
   S = [(0, .cells (rawC x)), (1, .cells [.f (.c (.int .i64 0)), .f (.c (.int .i64 0)), .f (.c (.int .i64 0)), .f (.c .nils)]), (2, .cells [.f (.c (.int .i64 (mW x))), .f (.c (.int .i64 (mH x))), .f (.c (.int .i64 (mG x))), .own 3 0 out.length 3]), (3, .data (out.flatMap ftF))] /\ nk = 4)
  ⟨min x.f.length 4, _, _, _, [], ?wk, 0, [], oM, rfl, rfl, rfl, rfl⟩ ?_
 case wk => exact wkA
 rintro m E S nk ⟨i, out, hi, ho, rfl, rfl, rfl⟩
 refine goD ?_; intros
 refine ds_if rfl (fun ht => ?_) (fun ht => ?_)
 ·rw [itAnd, Bool.and_eq_true] at ht
  have h1 := of_decide_eq_true ht.1
  have h2 := of_decide_eq_true ht.2
  obtain ⟨r, hr⟩ : ∃ r, x.f[i]? = some r := ⟨_, List.getElem?_eq_getElem oM⟩
  have e1 := rwF_at hr
  have hol : out.length = i := by rw [ho, List.length_map, List.length_take]; omega
  have hfl := ftF_len out
  refine goD ?_; intros
  refine dw_cf rfl rfl (d_feature (x := r) (w := mW x) (h := mH x) (hf r (List.mem_of_getElem? hr)) (by unfold mW; omega) (by unfold mH; omega)) ?_
  rintro _ rfl
  refine goD ?_; intros
  refine dw_app (m := 1) (q := ftF (featM r (mW x) (mH x))) rfl rfl rfl (subL_all _ hfl) ⟨rfl, rfl, _, rfl, rfl⟩ oM oM (by decide) rfl ?_
  rw [show out.flatMap ftF ++ ftF (featM r (mW x) (mH x)) = (out ++ [featM r (mW x) (mH x)]).flatMap ftF by simp, show out.length + 1 = (out ++ [featM r (mW x) (mH x)]).length by simp]
  refine dw_fgt rfl ?_
  refine goD ?_; intros
  refine ⟨m - 1, by omega, _, _, _, [(3, 5)], ?wk1, i + 1, out ++ [featM r (mW x) (mH x)], by omega, by rw [List.take_add_one, hr, ho]; simp, rfl, rfl, rfl⟩
  case wk1 => exact wkA
 ·rw [itAnd] at ht
  have hi4 : i = min x.f.length 4 := by
   rcases Bool.and_eq_false_iff.1 ht with h|h
   ·have := of_decide_eq_false h
    omega
   ·have := of_decide_eq_false h
    omega
  have ho4 : out = (x.f.take 4).map (fun r => featM r (mW x) (mH x)) := by
   rw [ho, hi4]
   by_cases h4 : x.f.length <= 4
   ·rw [List.take_of_length_le (by omega), List.take_of_length_le h4]
   ·rw [show min x.f.length 4 = 4 by omega]
  clear ho
  refine goD ?_; intros
  refine ds_if rfl (fun hz => ?_) (fun hz => ?_)
  ·have hz : out = [] := by
    have h : (out.length : Int) = 0 := by simpa using hz
    exact List.length_eq_zero_iff.1 oM
   have hmF : mF x = [oneF] := by rw [mF, <- ho4, hz]
   clear ho4
   subst hz
   refine ds_keep (SubA.cons (k := 2) rfl (SubA.cons (k := 3) rfl (SubA.nil _))) (SubA.refl _) ?_
   iterate 4 (first|refine dw_p rfl ?_|refine dw_a rfl ?_|refine ds_ops mix (fun base => ?_))
   have hq2 : (ptF (1, 1)).length = 1 * 2 := rfl
   refine dw_frz 4 rfl okZ okZ ?_
   refine goD ?_; intros
   refine ds_keep (SubA.cons (k := 2) rfl (SubA.nil _)) (SubA.cons (k := 1) rfl (SubA.cons (k := 5) rfl (SubA.nil _))) ?_
   have hq3 : (ftF oneF).length = 1 * 3 := rfl
   refine ds_frz 5 rfl okZ okZ ?_
   refine ds_ret ⟨_, rfl, rfl, ?_⟩
   rw [madeP14, hmF]
   rfl
  ·have hz : out ≠ [] := fun h => by
    subst h
    cases hz
   have hmF : mF x = out := by
    rw [mF, <- ho4]
    cases out with
    | nil => exact absurd rfl hz
    | cons => rfl
   have hfl := ftF_len out
   refine goD ?_; intros
   refine ds_keep (SubA.cons (k := 2) rfl (SubA.nil _)) (SubA.cons (k := 1) rfl (SubA.cons (k := 3) rfl (SubA.nil _))) ?_
   refine ds_frz 3 rfl okZ okZ ?_
   refine ds_ret ⟨_, rfl, rfl, ?_⟩
   rw [madeP14, hmF]
   rfl
def boxL (a : Pt2) : List Pt2 := (List.range 9).flatMap fun (y : Nat) => (List.range 9).map fun (x : Nat) => (a.1 + (x : Int), a.2 + (y : Int))
theorem boxL_len (a : Pt2) : (boxL a).length = 81 := rfl
theorem boxL_mem {a p : Pt2} (h : InBox a (a.1 + 8, a.2 + 8) p) : p ∈ boxL a := by
 obtain ⟨p1, p2⟩ := p
 unfold InBox at h
 simp only at h
 simp only [boxL, List.mem_flatMap, List.mem_map, List.mem_range, Prod.mk.injEq]
 exact ⟨(p2 - a.2).toNat, oM, (p1 - a.1).toNat, oM, oM, oM⟩
theorem pointsF_few {f : Ft} {a : Pt2} (hv : validF f = true) (h : ∀ q ∈ f.pts, InBox a (a.1 + 8, a.2 + 8) q) : (pointsF f).length <= 256 := by
 have := sub_len (pointsF_nodup hv) (b := boxL a) fun p hp => boxL_mem (pointsF_box h p hp)
 rw [boxL_len] at this
 omega
theorem featM_box {x : Rw} {w h : Int} (hx : x.ok) (hw : 0 < w) (hh : 0 < h) : ∀ q ∈ (featM x w h).pts, InBox (fA x w, fB x h) (fA x w + 8, fB x h + 8) q := by
 obtain ⟨⟨_, hx1, hx2⟩, hx3, hx4, _⟩ := hx
 unfold isB at *
 have t1 : 0 <= x.x1.tmod w /\ x.x1.tmod w < w := ⟨Int.tmod_nonneg _ hx1.1, Int.tmod_lt_of_pos _ hw⟩
 have t2 : 0 <= x.x2.tmod h /\ x.x2.tmod h < h := ⟨Int.tmod_nonneg _ hx2.1, Int.tmod_lt_of_pos _ hh⟩
 have t3 : 0 <= x.x3.tmod 8 /\ x.x3.tmod 8 < 8 := ⟨Int.tmod_nonneg _ hx3.1, Int.tmod_lt_of_pos _ oM⟩
 have t4 : 0 <= x.x4.tmod 8 /\ x.x4.tmod 8 < 8 := ⟨Int.tmod_nonneg _ hx4.1, Int.tmod_lt_of_pos _ oM⟩
 have hR : fA x w <= fR x w /\ fR x w <= fA x w + 8 := by unfold fR fA; omega
 have hL : fB x h <= fL x h /\ fL x h <= fB x h + 8 := by unfold fL fB; omega
 have b1 : InBox (fA x w, fB x h) (fA x w + 8, fB x h + 8) (fA x w, fB x h) := by unfold InBox; simp only; omega
 have b2 : InBox (fA x w, fB x h) (fA x w + 8, fB x h + 8) (fR x w, fL x h) := by unfold InBox; simp only; omega
 have b3 : InBox (fA x w, fB x h) (fA x w + 8, fB x h + 8) (fA x w, fL x h) := by unfold InBox; simp only; omega
 have b4 : InBox (fA x w, fB x h) (fA x w + 8, fB x h + 8) (fR x w, fB x h) := by unfold InBox; simp only; omega
 intro q hq
 unfold featM at hq
 split at hq
 ·simp only [List.mem_singleton] at hq
  subst hq
  exact b1
 ·split at hq
  ·simp only [List.mem_append, List.mem_cons, List.not_mem_nil, or_false] at hq
   rcases hq with (rfl|rfl)|hq
   ·exact b1
   ·exact b2
   ·split at hq
    ·simp only [List.mem_singleton] at hq
     subst hq
     exact b3
    ·cases hq
  ·simp only [List.mem_append, List.mem_cons, List.not_mem_nil, or_false] at hq
   rcases hq with (rfl|rfl|rfl)|hq
   ·exact b1
   ·exact b4
   ·exact b2
   ·split at hq
    ·simp only [List.mem_singleton] at hq
     subst hq
     exact b3
    ·cases hq
theorem featM_pts {x : Rw} {w h : Int} : (featM x w h).pts.length <= 4 := by
 unfold featM
 split
 ·exact Nat.le_add_left 1 3
 ·split
  ·split <;> simp
  ·split <;> simp
theorem mF_mem {x : Raw} {f : Ft} (h : f ∈ mF x) : f = oneF \/ ∃ r ∈ x.f, f = featM r (mW x) (mH x) := by
 unfold mF at h
 split at h
 ·simp only [List.mem_singleton] at h
  exact .inl h
 ·rename_i l hl
  obtain ⟨r, hr, rfl⟩ := List.mem_map.1 h
  exact .inr ⟨r, List.mem_of_mem_take hr, rfl⟩
theorem mF_len (x : Raw) : 1 <= (mF x).length /\ (mF x).length <= 4 := by
 unfold mF
 split
 ·decide
 ·rename_i l hl
  refine ⟨?_, ?_⟩
  ·cases h : (x.f.take 4).map (fun r => featM r (mW x) (mH x)) with
   | nil => exact absurd h hl
   | cons => simp
  ·rw [List.length_map, List.length_take]
   omega
theorem mWH {x : Raw} (hx : x.ok) : (12 <= mW x /\ mW x <= 36) /\ (12 <= mH x /\ mH x <= 36) /\ 2 <= mG x /\ mG x <= 4 := by
 obtain ⟨⟨hw, hh, hg⟩, hf⟩ := hx
 unfold isB at hw hh hg
 have t1 : 0 <= x.w.tmod 13 /\ x.w.tmod 13 < 13 := ⟨Int.tmod_nonneg _ hw.1, Int.tmod_lt_of_pos _ oM⟩
 have t2 : 0 <= x.h.tmod 9 /\ x.h.tmod 9 < 9 := ⟨Int.tmod_nonneg _ hh.1, Int.tmod_lt_of_pos _ oM⟩
 have t3 : 0 <= x.g.tmod 3 /\ x.g.tmod 3 < 3 := ⟨Int.tmod_nonneg _ hg.1, Int.tmod_lt_of_pos _ oM⟩
 unfold mW mH mG
 omega
theorem made_fine (x : Raw) : Fine (madeP14 x) := by
 refine ⟨?_, fun f hf => ?_⟩
 ·have := mF_len x
  show (mF x).length < 1000
  omega
 ·rcases mF_mem hf with rfl|⟨r, _, rfl⟩
  ·decide
  ·have := featM_pts (x := r) (w := mW x) (h := mH x)
   omega
theorem few_one {f : Ft} {q : Pt2} (h1 : f.kind = 1) (h2 : f.pts = [q]) : (pointsF f).length <= 256 := by
 unfold pointsF
 rw [if_pos h1, h2]
 exact Nat.le_add_left 1 255
theorem made_few {x : Raw} (hx : x.ok) : Few (madeP14 x) := fun f hf hv => by
 have hb := mWH hx
 rcases mF_mem hf with rfl|⟨r, hr, rfl⟩
 ·exact few_one (q := (1, 1)) rfl rfl
 ·exact pointsF_few hv (featM_box (hx.2 r hr) oM oM)
theorem d_psame {a b : Plc} (hn : a.1.length < 1000000000) : DK 15 [plcD a, plcD b] fun d => d = .bool (decide (a = b)) := by
 obtain ⟨l, x, e⟩ := a
 obtain ⟨l', x', e'⟩ := b
 refine dfn_ok cp15 rfl GHro fun Z0 lo => ?_
 refine goD ?_; intros
 refine dw_cf rfl rfl (d_same (l := l) (r := l') (by simp only at hn; omega)) ?_
 rintro _ rfl
 by_cases h1 : l = l'
 ·rw [decide_eq_true h1]
  by_cases h2 : x = x'
  ·have b2 : (x == x') = true := by simpa using h2
   by_cases h3 : e = e'
   ·have b3 : (e == e') = true := by simpa using h3
    refine goB ?_; intros
    refine ds_ret ⟨_, rfl, rfl, ?_⟩
    rw [decide_eq_true (by rw [h1, h2, h3])]
   ·have b3 : (e == e') = false := by simpa using h3
    refine goB ?_; intros
    refine ds_ret ⟨_, rfl, rfl, ?_⟩
    rw [decide_eq_false (fun h => h3 (congrArg (fun z => z.2.2) h))]
  ·have b2 : (x == x') = false := by simpa using h2
   refine goB ?_; intros
   refine ds_ret ⟨_, rfl, rfl, ?_⟩
   rw [decide_eq_false (fun h => h2 (congrArg (fun z => z.2.1) h))]
 ·rw [decide_eq_false h1]
  refine goB ?_; intros
  refine ds_ret ⟨_, rfl, rfl, ?_⟩
  rw [decide_eq_false (fun h => h1 (congrArg (fun z => z.1) h))]
def raw3 (x : Raw) : Raw := ⟨x.w, x.h, x.g, x.f.take (min x.f.length 3)⟩
def made3 (x : Raw) : Pic := madeP14 (raw3 x)
theorem raw3_ok {x : Raw} (hx : x.ok) : (raw3 x).ok := ⟨hx.1, fun r hr => hx.2 r (List.mem_of_mem_take hr)⟩
theorem rwF_len (l : List Rw) : (l.flatMap rwF).length = l.length * 6 := flat_length (f := rwF) (e := 6) (fun _ => rfl) l
theorem rwF_take {l : List Rw} {k : Nat} (hk : k <= l.length) : subL (l.flatMap rwF) (0 * 6) (k * 6) = some ((l.take k).flatMap rwF) := by
 have h1 : l.flatMap rwF = (l.take k).flatMap rwF ++ (l.drop k).flatMap rwF := by rw [<- List.flatMap_append, List.take_append_drop]
 have h2 : ((l.take k).flatMap rwF).length = k * 6 := by rw [rwF_len, List.length_take]; omega
 rw [subL_of (by rw [rwF_len]; omega), Nat.zero_mul, List.drop_zero, h1, <- h2, List.take_left]
theorem d_lmade {x : Raw} (hx : x.ok) : DK 14 [rawD x] fun d => d = .tup [picD (made3 x), .bool (validPic (made3 x))] := by
 refine dfn_ok cp14 rfl GHro fun Z0 lo => ?_
 have hm := d_made (raw3_ok hx)
 have hF := made_fine (raw3 x)
 have hl : (raw3 x).f.length = min x.f.length 3 := by simp only [raw3, List.length_take]; omega
 obtain ⟨k, hk⟩ : ∃ k : Nat, k = min x.f.length 3 := ⟨_, rfl⟩
 have hk2 : min (x.f.length : Int) 3 = ((k : Nat) : Int) := by omega
 refine goD ?_; intros
 rw [hk2]
 refine dw_slf (q := (x.f.take k).flatMap rwF) (n' := k) rfl rfl rfl oM oM oM (rwF_take oM) ?_
 refine goD ?_; intros
 subst hk
 refine dw_cf (ds := [rawD (raw3 x)]) (congrArg (fun z => some [DV.agg [.f (.c (.int .u8 x.w)), .f (.c (.int .u8 x.h)), .f (.c (.int .u8 x.g)), .f (.sl 6 z ((x.f.take (min x.f.length 3)).flatMap rwF))]]) hl.symm) rfl hm ?_
 rintro _ rfl
 have hv := d_rapvalid hF
 unfold made3
 generalize madeP14 (raw3 x) = p at *
 refine goD ?_; intros
 refine dw_cf rfl rfl hv ?_
 rintro _ rfl
 refine goD ?_; intros
 exact ds_ret ⟨_, rfl, rfl, rfl⟩
theorem sub_one {m : List FD} {j : Nat} {x : FD} (h : m[j]? = some x) : subL m (j * 1) 1 = some [x] := by
 have hj := (List.getElem?_eq_some_iff.1 h).1
 rw [Nat.mul_one, subL_of (by omega), List.drop_eq_getElem_cons hj, (List.getElem?_eq_some_iff.1 h).2]
 rfl
theorem flat_at : ∀ {l : List Pt2} {i : Nat} {q : Pt2}, l[i]? = some q -> (l.flatMap ptF)[2 * i]? = some (.c (.int .i64 q.1)) /\ (l.flatMap ptF)[2 * i + 1]? = some (.c (.int .i64 q.2))
 | [], i, q, h => by simp at h
 | y :: l, 0, q, h => by
  simp at h
  subst h
  exact ⟨rfl, rfl⟩
 | y :: l, i + 1, q, h => by
  have ih := flat_at (l := l) (i := i) (q := q) (by simpa using h)
  exact ih
def spotF (q : Pt2) : Ft := ⟨1, 0, [q]⟩
def spots15 (l : List Pt2) : Pic := ⟨20, 12, 2, l.map spotF⟩
def intsA (l : List Pt2) : DV := .one (.f (.sl 1 (l.length * 2) (l.flatMap ptF)))
theorem d_spots15 {l : List Pt2} (hn : l.length < 1000) : DK 27 [intsA l] fun d => d = picD (spots15 l) := by
 refine dfn_ok cp27 rfl GHro fun Z0 lo => ?_
 refine goD ?_; intros
 refine ds_virtD 1 3 3 rfl rfl ?_
 refine ds_loop (fun m E S nk => ∃ (i : Nat) (out : List Ft), i + m = l.length /\ out = (l.take i).map spotF /\ E = [(0, intsA l), (2, .one (.ptr 0 0)), (3, .one (.ptr 1 0)), (4, .int (2 * i : Nat))] /\
   S = [(0, .cells [.f (.c (.int .i64 0)), .f (.c (.int .i64 0)), .f (.c (.int .i64 0)), .f (.c .nils)]), (1, .cells [.f (.c (.int .i64 20)), .f (.c (.int .i64 12)), .f (.c (.int .i64 2)), .own 2 0 out.length 3]), (2, .data (out.flatMap ftF))] /\ nk = 3)
  ⟨l.length, _, _, _, [], ?wk, 0, [], oM, rfl, rfl, rfl, rfl⟩ ?_
 case wk => exact wkA
 rintro m E S nk ⟨i, out, hi, ho, rfl, rfl, rfl⟩
 have w1 : IntKind.i64.wrap (((2 * i : Nat) : Int) + 1) = ((2 * i + 1 : Nat) : Int) := by rw [dwrap (by omega) (by omega)]; omega
 have w2 : IntKind.i64.wrap (((2 * i : Nat) : Int) + 2) = ((2 * (i + 1) : Nat) : Int) := by rw [dwrap (by omega) (by omega)]; omega
 refine goD ?_; intros
 refine ds_if rfl (fun hi2 => ?_) (fun hi2 => ?_)
 ·have hi2 : i < l.length := by have := of_decide_eq_true hi2; rw [w1] at this; omega
  obtain ⟨q, hq⟩ : ∃ q, l[i]? = some q := ⟨_, List.getElem?_eq_getElem hi2⟩
  have hfa := flat_at hq
  have e1 := sub_one hfa.1
  have e2 := sub_one hfa.2
  have hol : out.length = i := by rw [ho, List.length_map, List.length_take]; omega
  have hfl := ftF_len out
  refine goD ?_; intros
  rw [w1]
  iterate 5 (first|(refine dw_want rfl rfl ?_)|(refine dw_skip rfl rfl ?_)|(refine dw_skipU rfl ?_)|(refine dw_pickT rfl rfl ?_)|(refine dw_pickF rfl rfl ?_)|(refine dw_pick rfl dgA dgA ?_)|(refine dw_max rfl rfl ?_)|(refine dw_min rfl rfl ?_)|(refine dw_p rfl ?_)|(refine dw_l rfl ?_)|(refine dw_lk rfl ?_)|(refine dw_pg rfl dgA ?_)|(refine dw_lg rfl dgA ?_)|(refine dw_io1 rfl rfl oM oM ?_)|(refine dw_io0 rfl rfl oM oM ?_)|(refine dw_it0 rfl rfl oM oM ?_)|(refine dw_if0 rfl rfl oM (by decide) aM ?_)|(refine dw_if rfl rfl oM (by decide) aM ?_)|(refine dw_l (dload_data rfl rfl aM rfl) ?_)|(refine dw_lk (dload_data rfl rfl aM rfl) ?_)|(refine dw_l (dload_tree rfl rfl aM) ?_)|(refine dw_lk (dload_tree rfl rfl aM) ?_)|(refine dw_l (dload_tptr rfl rfl aM aM) ?_)|(refine dw_lk (dload_tptr rfl rfl aM aM) ?_)|(refine dw_a rfl ?_)|(refine dw_ai rfl rfl rfl ?_)|(refine dw_st rfl rfl rfl rfl rfl (Nat.le_of_ble_eq_true rfl) rfl ?_)|(refine dw_nil ?_)|(refine ds_seq ?_)|(refine ds_ops mix (fun base => ?_))|(refine ds_skip ?_)|(refine ds_block ?_)|(refine ds_exit ?_))
  have hq2 : (ptF q).length = 1 * 2 := rfl
  refine dw_frz 3 rfl okZ okZ ?_
  refine goD ?_; intros
  refine dw_app (m := 1) (q := ftF (spotF q)) rfl rfl rfl (subL_all _ hfl) ⟨rfl, rfl, _, rfl, rfl⟩ oM oM (by decide) rfl ?_
  rw [show out.flatMap ftF ++ ftF (spotF q) = (out ++ [spotF q]).flatMap ftF by simp, show out.length + 1 = (out ++ [spotF q]).length by simp]
  refine goD ?_; intros
  rw [w2]
  refine ⟨m - 1, by omega, _, _, _, [(2, 5)], ?wk1, i + 1, out ++ [spotF q], by omega, by rw [List.take_add_one, hq, ho]; simp, rfl, rfl, rfl⟩
  case wk1 => exact wkA
 ·have hi2 : i = l.length := by have := of_decide_eq_false hi2; rw [w1] at this; omega
  subst hi2
  rw [List.take_length] at ho
  have hfl := ftF_len out
  refine goD ?_; intros
  refine ds_keep (SubA.cons (k := 2) rfl (SubA.nil _)) (SubA.cons (k := 0) rfl (SubA.cons (k := 2) rfl (SubA.nil _))) ?_
  refine ds_frz 2 rfl okZ okZ ?_
  refine ds_ret ⟨_, rfl, rfl, ?_⟩
  rw [spots15, <- ho]
  rfl
end Go.Ae

namespace Go.Ae
open Go.Ab Go.Proofs
theorem PlcR.uniq {p : Pic} {a b : Plc} (ha : PlcR p a) (hb : PlcR p b) : a = b := by
 cases ha with
 | bad i hi h1 h2 =>
  cases hb with
  | bad j hj h3 h4 =>
   have : i = j := by
    rcases Nat.lt_trichotomy i j with h|h|h
    ·exact absurd h1 (h4 i h)
    ·exact h
    ·exact absurd h3 (h2 j h)
   rw [this]
  | ok h3 => exact absurd h1 (h3 i hi)
 | ok h1 =>
  cases hb with
  | bad j hj h3 h4 => exact absurd h3 (h1 j hj)
  | ok h3 => rfl
def full15 : Pic := ⟨20, 12, 2, [⟨3, 3, [(0, 0), (19, 0), (19, 11), (0, 11)]⟩]⟩
theorem sp1 : sAt (spots15 [(0, 0)]) 0 = [(2, 0)] := by kernel_rfl
theorem sp2 : sAt (spots15 [(10, 5)]) 0 = [(1, 0)] := by kernel_rfl
def four15 : List Pt2 := [(0, 0), (19, 0), (0, 11), (19, 11)]
theorem sp30 : sAt (spots15 four15) 0 = [(2, 0)] := by kernel_rfl
theorem sp31 : sAt (spots15 four15) 1 = [(2, 0), (6, 0)] := by kernel_rfl
theorem sp32 : sAt (spots15 four15) 2 = [(2, 0), (6, 0), (0, 2)] := by kernel_rfl
theorem sp33 : sAt (spots15 four15) 3 = [(2, 0), (6, 0), (0, 2), (8, 1)] := by kernel_rfl
def areaF : Ft := ⟨3, 3, [(0, 0), (19, 0), (19, 11), (0, 11)]⟩
def offs : List Pt2 := [(0, 0), (0, 1), (1, 0), (1, 1), (0, 2), (2, 0), (2, 1), (1, 2), (2, 2), (-1, 0), (0, -1), (-1, -1)]
def nearA (x y : Nat) : Bool := offs.any fun o => in60 (2 * (x : Int) + 1 + o.1, 3 * (y : Int) + o.2) && (texP 3 (2 * (x : Int) + 1 + o.1, 3 * (y : Int) + o.2) && inP areaF.pts (2 * (x : Int) + 1 + o.1, 3 * (y : Int) + o.2))
theorem nearA_all : ((List.range 9).all fun x => (List.range 4).all fun y => nearA x y) = true := by kernel_rfl
theorem validPic_full : validPic full15 = true := by kernel_rfl
theorem fits_full {x y : Nat} (hx : x < 9) (hy : y < 4) : fitsP full15 0 ((x : Int), (y : Int)) = false := by
 have h := List.all_eq_true.1 (List.all_eq_true.1 nearA_all x (List.mem_range.2 hx)) y (List.mem_range.2 hy)
 obtain ⟨o, ho, h⟩ := List.any_eq_true.1 h
 simp only [Bool.and_eq_true] at h
 obtain ⟨h1, h2, h3⟩ := h
 have hm : (2 * (x : Int) + 1 + o.1, 3 * (y : Int) + o.2) ∈ pointsF areaF := by
  rw [pointsF, if_neg (by decide), if_neg (by decide), sortedP_mem, List.mem_append]
  refine .inr (List.mem_filter.2 ⟨gridL_mem.2 h1, ?_⟩)
  rw [Bool.and_eq_true]
  exact ⟨h2, h3⟩
 have hd : dist (lblP 0 ((x : Int), (y : Int))) (pointsF areaF) <= 2 := (dist_le (lblP_ne 0 _) (fun e => by rw [e] at hm; cases hm)).2 ⟨_, lblP_first 0 _, _, hm, by
  have ho2 : -2 <= o.1 /\ o.1 <= 2 /\ -2 <= o.2 /\ o.2 <= 2 := by
   have : ∀ o ∈ offs, -2 <= o.1 /\ o.1 <= 2 /\ -2 <= o.2 /\ o.2 <= 2 := by decide
   exact this o ho
  simp only [far, lbQ]
  omega⟩
 have hp : ptsOf full15 = [pointsF areaF] := by
  rw [ptsOf, show full15.fs = [areaF] from rfl, List.map_cons, List.map_nil]
 rw [fitsP, hp, List.all_cons, farL, show full15.gap = 2 from rfl, decide_eq_true hd, Bool.not_true, Bool.false_and, Bool.false_and, Bool.and_false]
theorem cand_full : candP full15 0 = [] := by
 unfold candP candN rowC
 rw [show (full15.h / 3).toNat = 4 by decide, show (full15.w / 2).toNat - 1 = 9 by decide]
 refine List.eq_nil_iff_forall_not_mem.2 fun q hq => ?_
 obtain ⟨y, hy, hq⟩ := List.mem_flatMap.1 hq
 obtain ⟨hq, hf⟩ := List.mem_filter.1 hq
 obtain ⟨x, hx, rfl⟩ := List.mem_map.1 hq
 rw [fits_full (List.mem_range.1 hx) (List.mem_range.1 hy)] at hf
 cases hf
theorem spf : sAt full15 0 = [] := by
 have : alls full15 1 = [[]] := by rw [alls_succ, cand_full]; rfl
 rw [sAt, this]
 rfl
theorem plc_s1 : PlcR (spots15 [(0, 0)]) ([(2, 0)], 1, 0) := by
 have h := PlcR.ok (p := spots15 [(0, 0)]) fun j hj => by
  obtain rfl : j = 0 := by have : j < 1 := hj; omega
  rw [sp1]; decide
 rw [show (spots15 [(0, 0)]).fs.length - 1 = 0 from rfl, sp1] at h
 exact h
theorem plc_s2 : PlcR (spots15 [(10, 5)]) ([(1, 0)], 1, 0) := by
 have h := PlcR.ok (p := spots15 [(10, 5)]) fun j hj => by
  obtain rfl : j = 0 := by have : j < 1 := hj; omega
  rw [sp2]; decide
 rw [show (spots15 [(10, 5)]).fs.length - 1 = 0 from rfl, sp2] at h
 exact h
theorem plc_s3 : PlcR (spots15 four15) ([(2, 0), (6, 0), (0, 2), (8, 1)], 4, 0) := by
 have h := PlcR.ok (p := spots15 four15) fun j hj => by
  have hj : j < 4 := hj
  match j, hj with
  | 0, _ => rw [sp30]; decide
  | 1, _ => rw [sp31]; decide
  | 2, _ => rw [sp32]; decide
  | 3, _ => rw [sp33]; decide
 rw [show (spots15 four15).fs.length - 1 = 3 from rfl, sp33] at h
 exact h
theorem plc_sf : PlcR full15 ([], 0, 150) := .bad 0 (by decide) (by rw [spf]; decide) fun j hj => by omega
theorem leg1 : (validPic (spots15 [(0, 0)]) && legalP (spots15 [(0, 0)]) [(2, 1)]) = true := by kernel_rfl
theorem leg2 : (validPic (spots15 [(0, 0)]) && legalP (spots15 [(0, 0)]) []) = false := by kernel_rfl
theorem leg3 : (validPic (spots15 [(0, 0)]) && legalP (spots15 [(0, 0)]) [(0, 0)]) = false := by kernel_rfl
end Go.Ae

namespace Go.Ae
open Go.Ab Go.Proofs
set_option linter.unusedSimpArgs false
theorem d_place {p : Pic} (hFi : Fine p) (hFe : Few p) : DK 16 [picD p] fun d => ∃ r, (validPic p = true -> PlcR p r) /\ (validPic p = false -> r = ([], 0, 150)) /\ d = plcD r := by
 refine dfn_ok cp16 rfl GHro fun Z0 lo => ?_
 refine goD ?_; intros
 refine dw_cf rfl rfl (d_lplace hFi hFe) ?_
 rintro _ ⟨r, h1, h2, rfl⟩
 refine goD ?_; intros
 exact ds_ret ⟨_, rfl, rfl, r, h1, h2, rfl⟩
theorem d_placeU {p : Pic} {r : Plc} (hFi : Fine p) (hFe : Few p) (hv : validPic p = true) (hr : PlcR p r) : DK 16 [picD p] fun d => d = plcD r := DCalls.mono (d_place hFi hFe) fun d ⟨r', h1, _, h3⟩ => by
 rw [h3, (h1 hv).uniq hr]
theorem sp15_fine {l : List Pt2} (hn : l.length < 1000) : Fine (spots15 l) := by
 refine ⟨by simpa [spots15] using hn, fun f hf => ?_⟩
 obtain ⟨q, _, rfl⟩ := List.mem_map.1 hf
 exact Nat.lt_of_lt_of_le (Nat.lt_succ_self 1) (Nat.le_add_left 2 998)
theorem sp15_few {l : List Pt2} : Few (spots15 l) := fun f hf _ => by
 obtain ⟨q, _, rfl⟩ := List.mem_map.1 hf
 exact few_one (q := q) rfl rfl
theorem full_fine : Fine full15 := ⟨by decide, fun f hf => by
 rw [show full15.fs = [areaF] from rfl, List.mem_singleton] at hf
 subst hf
 decide⟩
def boxL2 : List Pt2 := (List.range 12).flatMap fun (y : Nat) => (List.range 20).map fun (x : Nat) => ((x : Int), (y : Int))
theorem boxL2_len : boxL2.length = 240 := by kernel_rfl
theorem boxL2_mem {p : Pt2} (h : InBox (0, 0) (19, 11) p) : p ∈ boxL2 := by
 obtain ⟨p1, p2⟩ := p
 unfold InBox at h
 simp only at h
 simp only [boxL2, List.mem_flatMap, List.mem_map, List.mem_range, Prod.mk.injEq]
 exact ⟨p2.toNat, oM, p1.toNat, oM, oM, oM⟩
theorem full_few : Few full15 := fun f hf hv => by
 have := sub_len (pointsF_nodup hv) (b := boxL2) fun p hp => boxL2_mem (pointsF_box (f := f) (lo := (0, 0)) (hi := (19, 11)) (fun q hq => by
  rw [show full15.fs = [areaF] from rfl, List.mem_singleton] at hf
  subst hf
  have : ∀ q ∈ areaF.pts, 0 <= q.1 /\ q.1 <= 19 /\ 0 <= q.2 /\ q.2 <= 11 := by decide
  have := this q hq
  unfold InBox
  omega) p hp)
 rw [boxL2_len] at this
 omega
def plcC (r : Plc) : List DC := [.f (.sl 2 r.1.length (r.1.flatMap ptF)), .f (.c (.int .i64 r.2.1)), .f (.c (.int .i64 r.2.2))]
theorem d_legal0 {p : Pic} (hFi : Fine p) (hF : Few p) : DK 19 [picD p, .one (.f (.c .nils))] fun d => d = .bool (validPic p && legalP p []) := fun H Z args hw hz hg ha => by
 refine d_legal (l := []) hFi hF (fun q hq => by cases hq) H Z args hw hz hg ?_
 match args, ha with
 | [v1, v2], ⟨h1, ⟨c, hv, hc⟩, _⟩ =>
  refine ⟨h1, ⟨c, hv, ?_⟩, trivial⟩
  cases hc
  exact (RF.nil 2 : RF Z H (.sl 2 0 []) .nils)
theorem d_sanity : DK 8 [] fun d => d = .bool true := by
 refine dfn_ok cp8 rfl GHro fun Z0 lo => ?_
 refine goD ?_; intros
 refine dw_frz 0 rfl okZ okZ ?_
 refine dw_cf rfl rfl (d_spots15 (l := [(0, 0)]) (by decide)) ?_
 rintro _ rfl
 refine dw_cf rfl rfl (d_placeU (sp15_fine (by decide)) sp15_few (by kernel_rfl) plc_s1) ?_
 rintro _ rfl
 refine goD ?_; intros
 refine dw_frz 1 rfl okZ okZ ?_
 refine dw_cf rfl rfl (d_spots15 (l := [(10, 5)]) (by decide)) ?_
 rintro _ rfl
 refine dw_cf rfl rfl (d_placeU (sp15_fine (by decide)) sp15_few (by kernel_rfl) plc_s2) ?_
 rintro _ rfl
 refine goD ?_; intros
 refine dw_frz 2 rfl okZ okZ ?_
 refine dw_cf rfl rfl (d_spots15 (l := four15) (by decide)) ?_
 rintro _ rfl
 refine dw_cf rfl rfl (d_placeU (sp15_fine (by decide)) sp15_few (by kernel_rfl) plc_s3) ?_
 rintro _ rfl
 iterate 7 (first|(refine dw_want rfl rfl ?_)|(refine dw_skip rfl rfl ?_)|(refine dw_skipU rfl ?_)|(refine dw_pickT rfl rfl ?_)|(refine dw_pickF rfl rfl ?_)|(refine dw_pick rfl dgA dgA ?_)|(refine dw_max rfl rfl ?_)|(refine dw_min rfl rfl ?_)|(refine dw_p rfl ?_)|(refine dw_l rfl ?_)|(refine dw_lk rfl ?_)|(refine dw_pg rfl dgA ?_)|(refine dw_lg rfl dgA ?_)|(refine dw_io1 rfl rfl oM oM ?_)|(refine dw_io0 rfl rfl oM oM ?_)|(refine dw_it0 rfl rfl oM oM ?_)|(refine dw_if0 rfl rfl oM (by decide) aM ?_)|(refine dw_if rfl rfl oM (by decide) aM ?_)|(refine dw_l (dload_data rfl rfl aM rfl) ?_)|(refine dw_lk (dload_data rfl rfl aM rfl) ?_)|(refine dw_l (dload_tree rfl rfl aM) ?_)|(refine dw_lk (dload_tree rfl rfl aM) ?_)|(refine dw_l (dload_tptr rfl rfl aM aM) ?_)|(refine dw_lk (dload_tptr rfl rfl aM aM) ?_)|(refine dw_a rfl ?_)|(refine dw_ai rfl rfl rfl ?_)|(refine dw_st rfl rfl rfl rfl rfl (Nat.le_of_ble_eq_true rfl) rfl ?_)|(refine dw_nil ?_)|(refine ds_seq ?_)|(refine ds_ops mix (fun base => ?_))|(refine ds_skip ?_)|(refine ds_block ?_)|(refine ds_exit ?_))
 refine ds_keep (E0 := [(1, .one (.ptr 3 0)), (2, .one (.ptr 4 0)), (3, .one (.ptr 5 0))])
  (S0 := [(3, .cells (plcC ([(2, 0)], 1, 0))), (4, .cells (plcC ([(1, 0)], 1, 0))), (5, .cells (plcC ([(2, 0), (6, 0), (0, 2), (8, 1)], 4, 0)))])
  (SubA.cons rfl (SubA.cons rfl (SubA.cons rfl (SubA.nil _)))) (SubA.cons rfl (SubA.cons rfl (SubA.cons rfl (SubA.nil _)))) ?_
 iterate 7 (first|(refine dw_want rfl rfl ?_)|(refine dw_skip rfl rfl ?_)|(refine dw_skipU rfl ?_)|(refine dw_pickT rfl rfl ?_)|(refine dw_pickF rfl rfl ?_)|(refine dw_pick rfl dgA dgA ?_)|(refine dw_max rfl rfl ?_)|(refine dw_min rfl rfl ?_)|(refine dw_p rfl ?_)|(refine dw_l rfl ?_)|(refine dw_lk rfl ?_)|(refine dw_pg rfl dgA ?_)|(refine dw_lg rfl dgA ?_)|(refine dw_io1 rfl rfl oM oM ?_)|(refine dw_io0 rfl rfl oM oM ?_)|(refine dw_it0 rfl rfl oM oM ?_)|(refine dw_if0 rfl rfl oM (by decide) aM ?_)|(refine dw_if rfl rfl oM (by decide) aM ?_)|(refine dw_l (dload_data rfl rfl aM rfl) ?_)|(refine dw_lk (dload_data rfl rfl aM rfl) ?_)|(refine dw_l (dload_tree rfl rfl aM) ?_)|(refine dw_lk (dload_tree rfl rfl aM) ?_)|(refine dw_l (dload_tptr rfl rfl aM aM) ?_)|(refine dw_lk (dload_tptr rfl rfl aM aM) ?_)|(refine dw_a rfl ?_)|(refine dw_ai rfl rfl rfl ?_)|(refine dw_st rfl rfl rfl rfl rfl (Nat.le_of_ble_eq_true rfl) rfl ?_)|(refine dw_nil ?_)|(refine ds_seq ?_)|(refine ds_ops mix (fun base => ?_))|(refine ds_skip ?_)|(refine ds_block ?_)|(refine ds_exit ?_))
 refine dw_frz 6 rfl okZ okZ ?_
 iterate 2 (first|(refine dw_want rfl rfl ?_)|(refine dw_skip rfl rfl ?_)|(refine dw_skipU rfl ?_)|(refine dw_pickT rfl rfl ?_)|(refine dw_pickF rfl rfl ?_)|(refine dw_pick rfl dgA dgA ?_)|(refine dw_max rfl rfl ?_)|(refine dw_min rfl rfl ?_)|(refine dw_p rfl ?_)|(refine dw_l rfl ?_)|(refine dw_lk rfl ?_)|(refine dw_pg rfl dgA ?_)|(refine dw_lg rfl dgA ?_)|(refine dw_io1 rfl rfl oM oM ?_)|(refine dw_io0 rfl rfl oM oM ?_)|(refine dw_it0 rfl rfl oM oM ?_)|(refine dw_if0 rfl rfl oM (by decide) aM ?_)|(refine dw_if rfl rfl oM (by decide) aM ?_)|(refine dw_l (dload_data rfl rfl aM rfl) ?_)|(refine dw_lk (dload_data rfl rfl aM rfl) ?_)|(refine dw_l (dload_tree rfl rfl aM) ?_)|(refine dw_lk (dload_tree rfl rfl aM) ?_)|(refine dw_l (dload_tptr rfl rfl aM aM) ?_)|(refine dw_lk (dload_tptr rfl rfl aM aM) ?_)|(refine dw_a rfl ?_)|(refine dw_ai rfl rfl rfl ?_)|(refine dw_st rfl rfl rfl rfl rfl (Nat.le_of_ble_eq_true rfl) rfl ?_)|(refine dw_nil ?_)|(refine ds_seq ?_)|(refine ds_ops mix (fun base => ?_))|(refine ds_skip ?_)|(refine ds_block ?_)|(refine ds_exit ?_))
 refine dw_frz 7 rfl okZ okZ ?_
 iterate 4 (first|(refine dw_want rfl rfl ?_)|(refine dw_skip rfl rfl ?_)|(refine dw_skipU rfl ?_)|(refine dw_pickT rfl rfl ?_)|(refine dw_pickF rfl rfl ?_)|(refine dw_pick rfl dgA dgA ?_)|(refine dw_max rfl rfl ?_)|(refine dw_min rfl rfl ?_)|(refine dw_p rfl ?_)|(refine dw_l rfl ?_)|(refine dw_lk rfl ?_)|(refine dw_pg rfl dgA ?_)|(refine dw_lg rfl dgA ?_)|(refine dw_io1 rfl rfl oM oM ?_)|(refine dw_io0 rfl rfl oM oM ?_)|(refine dw_it0 rfl rfl oM oM ?_)|(refine dw_if0 rfl rfl oM (by decide) aM ?_)|(refine dw_if rfl rfl oM (by decide) aM ?_)|(refine dw_l (dload_data rfl rfl aM rfl) ?_)|(refine dw_lk (dload_data rfl rfl aM rfl) ?_)|(refine dw_l (dload_tree rfl rfl aM) ?_)|(refine dw_lk (dload_tree rfl rfl aM) ?_)|(refine dw_l (dload_tptr rfl rfl aM aM) ?_)|(refine dw_lk (dload_tptr rfl rfl aM aM) ?_)|(refine dw_a rfl ?_)|(refine dw_ai rfl rfl rfl ?_)|(refine dw_st rfl rfl rfl rfl rfl (Nat.le_of_ble_eq_true rfl) rfl ?_)|(refine dw_nil ?_)|(refine ds_seq ?_)|(refine ds_ops mix (fun base => ?_))|(refine ds_skip ?_)|(refine ds_block ?_)|(refine ds_exit ?_))
 refine ds_keep (E0 := [(1, .one (.ptr 3 0)), (2, .one (.ptr 4 0)), (3, .one (.ptr 5 0)), (4, .one (.ptr 8 0))]) (S0 := [(3, .cells (plcC ([(2, 0)], 1, 0))), (4, .cells (plcC ([(1, 0)], 1, 0))), (5, .cells (plcC ([(2, 0), (6, 0), (0, 2), (8, 1)], 4, 0))), (8, .cells (picC full15))])
  (SubA.cons rfl (SubA.cons rfl (SubA.cons rfl (SubA.cons rfl (SubA.nil _))))) (SubA.cons rfl (SubA.cons rfl (SubA.cons rfl (SubA.cons rfl (SubA.nil _))))) ?_
 refine goD ?_; intros
 refine dw_cf rfl rfl (d_placeU full_fine full_few validPic_full plc_sf) ?_
 rintro _ rfl
 iterate 3 (first|(refine dw_want rfl rfl ?_)|(refine dw_skip rfl rfl ?_)|(refine dw_skipU rfl ?_)|(refine dw_pickT rfl rfl ?_)|(refine dw_pickF rfl rfl ?_)|(refine dw_pick rfl dgA dgA ?_)|(refine dw_max rfl rfl ?_)|(refine dw_min rfl rfl ?_)|(refine dw_p rfl ?_)|(refine dw_l rfl ?_)|(refine dw_lk rfl ?_)|(refine dw_pg rfl dgA ?_)|(refine dw_lg rfl dgA ?_)|(refine dw_io1 rfl rfl oM oM ?_)|(refine dw_io0 rfl rfl oM oM ?_)|(refine dw_it0 rfl rfl oM oM ?_)|(refine dw_if0 rfl rfl oM (by decide) aM ?_)|(refine dw_if rfl rfl oM (by decide) aM ?_)|(refine dw_l (dload_data rfl rfl aM rfl) ?_)|(refine dw_lk (dload_data rfl rfl aM rfl) ?_)|(refine dw_l (dload_tree rfl rfl aM) ?_)|(refine dw_lk (dload_tree rfl rfl aM) ?_)|(refine dw_l (dload_tptr rfl rfl aM aM) ?_)|(refine dw_lk (dload_tptr rfl rfl aM aM) ?_)|(refine dw_a rfl ?_)|(refine dw_ai rfl rfl rfl ?_)|(refine dw_st rfl rfl rfl rfl rfl (Nat.le_of_ble_eq_true rfl) rfl ?_)|(refine dw_nil ?_)|(refine ds_seq ?_)|(refine ds_ops mix (fun base => ?_))|(refine ds_skip ?_)|(refine ds_block ?_)|(refine ds_exit ?_))
 refine ds_keep (E0 := [(1, .one (.ptr 3 0)), (2, .one (.ptr 4 0)), (3, .one (.ptr 5 0)), (5, .one (.ptr 9 0))]) (S0 := [(3, .cells (plcC ([(2, 0)], 1, 0))), (4, .cells (plcC ([(1, 0)], 1, 0))), (5, .cells (plcC ([(2, 0), (6, 0), (0, 2), (8, 1)], 4, 0))), (9, .cells (plcC ([], 0, 150)))])
  (SubA.cons rfl (SubA.cons rfl (SubA.cons rfl (SubA.cons rfl (SubA.nil _))))) (SubA.cons rfl (SubA.cons rfl (SubA.cons rfl (SubA.cons rfl (SubA.nil _))))) ?_
 refine goD ?_; intros
 refine dw_cf rfl rfl (d_cells (i := 3) (by decide)) ?_
 rintro _ rfl
 refine goD ?_; intros
 refine dw_frz 10 rfl okZ okZ ?_
 refine dw_cf rfl rfl (d_same (l := [(2, 0)]) (r := [(2, 0)]) (by decide)) ?_
 rintro _ rfl
 rw [show decide (([(2, 0)] : List Pt2) = [(2, 0)]) = true from rfl]
 refine goD ?_; intros
 refine dw_frz 11 rfl okZ okZ ?_
 refine dw_cf rfl rfl (d_same (l := [(1, 0)]) (r := [(1, 0)]) (by decide)) ?_
 rintro _ rfl
 rw [show decide (([(1, 0)] : List Pt2) = [(1, 0)]) = true from rfl]
 refine goD ?_; intros
 refine dw_frz 12 rfl okZ okZ ?_
 refine dw_cf rfl rfl (d_same (l := [(2, 0), (6, 0), (0, 2), (8, 1)]) (r := [(2, 0), (6, 0), (0, 2), (8, 1)]) (by decide)) ?_
 rintro _ rfl
 rw [show decide (([(2, 0), (6, 0), (0, 2), (8, 1)] : List Pt2) = [(2, 0), (6, 0), (0, 2), (8, 1)]) = true from rfl]
 refine goD ?_; intros
 refine dw_if (j := 0) (q := [.c (.int .u8 60)]) rfl rfl (by decide) (by decide) rfl ?_
 refine goD ?_; intros
 refine dw_if (j := 1) (q := [.c (.int .u8 25)]) rfl rfl (by decide) (by decide) rfl ?_
 refine goD ?_; intros
 have hlp : DK 12 [.int 0, ptD (1, 1)] fun d => d = ptsD (lblP 0 (1, 1)) := d_lpoints (i := 0) (q := (1, 1)) (by decide) (by unfold Small; decide)
 refine dw_cf rfl rfl hlp ?_
 rintro _ rfl
 rw [show lblP 0 (1, 1) = [(3, 3), (4, 3), (3, 4), (2, 5), (3, 5)] from by kernel_rfl]
 refine goD ?_; intros
 refine dw_frz 13 rfl okZ okZ ?_
 refine dw_cf rfl rfl (d_same (l := [(3, 3), (4, 3), (3, 4), (2, 5), (3, 5)]) (r := [(3, 3), (4, 3), (3, 4), (2, 5), (3, 5)]) (by decide)) ?_
 rintro _ rfl
 rw [show decide (([(3, 3), (4, 3), (3, 4), (2, 5), (3, 5)] : List Pt2) = [(3, 3), (4, 3), (3, 4), (2, 5), (3, 5)]) = true from rfl]
 refine goD ?_; intros
 refine dw_frz 14 rfl okZ okZ ?_
 refine dw_cf rfl rfl (d_spots15 (l := [(0, 0)]) (by decide)) ?_
 rintro _ rfl
 refine goD ?_; intros
 refine dw_frz 15 rfl okZ okZ ?_
 refine dw_cf rfl rfl (d_legal (p := spots15 [(0, 0)]) (l := [(2, 1)]) (sp15_fine (by decide)) sp15_few (by unfold Small; decide)) ?_
 rintro _ rfl
 rw [leg1]
 refine goD ?_; intros
 refine dw_frz 16 rfl okZ okZ ?_
 refine dw_cf rfl rfl (d_spots15 (l := [(0, 0)]) (by decide)) ?_
 rintro _ rfl
 refine goD ?_; intros
 refine dw_cf rfl rfl (d_legal0 (p := spots15 [(0, 0)]) (sp15_fine (by decide)) sp15_few) ?_
 rintro _ rfl
 rw [leg2]
 refine goD ?_; intros
 refine dw_frz 17 rfl okZ okZ ?_
 refine dw_cf rfl rfl (d_spots15 (l := [(0, 0)]) (by decide)) ?_
 rintro _ rfl
 refine goD ?_; intros
 refine dw_frz 18 rfl okZ okZ ?_
 refine dw_cf rfl rfl (d_legal (p := spots15 [(0, 0)]) (l := [(0, 0)]) (sp15_fine (by decide)) sp15_few (by unfold Small; decide)) ?_
 rintro _ rfl
 rw [leg3]
 refine goD ?_; intros
 exact ds_ret ⟨_, rfl, rfl, rfl⟩
theorem made3_fine (x : Raw) : Fine (made3 x) := made_fine (raw3 x)
theorem made3_few {x : Raw} (hx : x.ok) : Few (made3 x) := made_few (raw3_ok hx)
theorem plc_len {p : Pic} (h1 : 1 <= p.fs.length) (hok : ∀ j, j < p.fs.length -> ¬ (sAt p j).length <= j) : (sAt p (p.fs.length - 1)).length = p.fs.length := by
 have h := hok (p.fs.length - 1) oM
 rcases srch_len (g := p.gap) (all := alls p (p.fs.length - 1 + 1)) (n := p.fs.length - 1 + 1) (l := []) (by rw [alls_len]; simp) with h2|h2
 ·rw [alls_len] at h2
  unfold sAt
  omega
 ·unfold sAt at h
  rw [h2] at h
  exact absurd (Nat.zero_le _) h
set_option maxHeartbeats 4000000 in
theorem d_lfails {x : Raw} (hx : x.ok) : DK 6 [rawD x] fun d => d = .bool true := by
 refine dfn_ok cp6 rfl GHro fun Z0 lo => ?_
 have hFi := made3_fine x
 have hFe := made3_few hx
 refine goD ?_; intros
 refine dw_cf rfl rfl d_sanity ?_
 rintro _ rfl
 refine goD ?_; intros
 refine dw_cf rfl rfl (d_lmade hx) ?_
 rintro _ rfl
 generalize made3 x = p at *
 cases hv : validPic p with
 | false =>
  refine goD ?_; intros
  refine ds_if rfl (fun _ => ?_) (fun h => by cases h)
  refine goD ?_; intros
  exact ds_ret ⟨_, rfl, rfl, rfl⟩
 | true =>
  have hl8 := (validPic_fs hv).1
  refine goD ?_; intros
  refine ds_if rfl (fun h => by cases h) (fun _ => ?_)
  refine goD ?_; intros
  refine dw_cf rfl rfl (d_place hFi hFe) ?_
  rintro _ ⟨r, hr, _, rfl⟩
  have hr := hr hv
  have hr0 := hr
  cases hr with
  | bad i hi hb hok =>
   refine goD ?_; intros
   refine ds_if rfl (fun h => by cases h) (fun _ => ?_)
   have b1 : decide ((i : Int) < 0) = false := decide_eq_false oM
   have b2 : decide ((i : Int) >= (p.fs.length : Int)) = false := decide_eq_false oM
   refine goB ?_; intros
   refine ds_if rfl (fun h => by cases h) (fun _ => ?_)
   refine goD ?_; intros
   refine dw_cf rfl rfl (d_rplace hv) ?_
   rintro _ ⟨r', hr', rfl⟩
   obtain rfl := hr'.uniq hr0
   have b3 : ((i : Int) == (i : Int)) = true := by simp
   refine goB ?_; intros
   exact ds_ret ⟨_, rfl, rfl, rfl⟩
  | ok hok =>
   have hlen := plc_len hl8.1 hok
   refine goD ?_; intros
   refine ds_if rfl (fun _ => ?_) (fun h => by cases h)
   have b1 : (((sAt p (p.fs.length - 1)).length : Int) == (p.fs.length : Int)) = true := by rw [hlen]; simp
   refine goB ?_; intros
   exact ds_ret ⟨_, rfl, rfl, rfl⟩
end Go.Ae

namespace Go.Ae
open Go.Ab Go.Proofs
theorem wf_u8 {n : Int} (h : (Lit.int .u8 n).wf = true) : isB n := by
 simp [Lit.wf, IntKind.min, IntKind.max, IntKind.signed, IntKind.bits] at h
 unfold isB
 omega
theorem wf_i8 {n : Int} (h : (Lit.int .i8 n).wf = true) : -128 <= n /\ n < 128 := by
 simp [Lit.wf, IntKind.min, IntKind.max, IntKind.signed, IntKind.bits] at h
 omega
def arrT : Ty := .agg (.pair (.int .u8) (.pair (.int .u8) (.pair (.int .u8) (.pair (.int .u8) (.pair (.int .u8) (.pair (.int .u8) .unit))))))
def rawT : Ty := .agg (.pair (.int .u8) (.pair (.int .u8) (.pair (.int .u8) (.pair (.slice arrT) .unit))))
def arrR (y : Int × Int × Int × Int × Int × Int × Unit) : Rw := ⟨y.1, y.2.1, y.2.2.1, y.2.2.2.1, y.2.2.2.2.1, y.2.2.2.2.2.1⟩
def rawR (a : Int × Int × Int × List (Int × Int × Int × Int × Int × Int × Unit) × Unit) : Raw := ⟨a.1, a.2.1, a.2.2.1, a.2.2.2.1.map arrR⟩
theorem rawR_ok {a : rawT.den} (h : Ty.okD rawT a) : (rawR a).ok := by
 obtain ⟨h1, h2, h3, h4, _⟩ := h
 refine ⟨⟨wf_u8 h1, wf_u8 h2, wf_u8 h3⟩, fun r hr => ?_⟩
 obtain ⟨y, hy, rfl⟩ := List.mem_map.1 hr
 obtain ⟨g1, g2, g3, g4, g5, g6, _⟩ := h4.1 y hy
 exact ⟨⟨wf_u8 g1, wf_u8 g2, wf_u8 g3⟩, wf_u8 g4, wf_u8 g5, wf_u8 g6⟩
theorem rawR_d (a : Int × Int × Int × List (Int × Int × Int × Int × Int × Int × Unit) × Unit) : rawD (rawR a) = argD rawT (show rawT.den from a) := by
 obtain ⟨a1, a2, a3, l, u⟩ := a
 have h : ∀ l : List (Int × Int × Int × Int × Int × Int × Unit), (l.map arrR).flatMap rwF = List.flatMap (Ty.fd arrT) l := by
  intro l
  induction l with
  | nil => rfl
  | cons y l ih => rw [List.map_cons, List.flatMap_cons, ih]; rfl
 show DV.agg [.f (.c (.int .u8 a1)), .f (.c (.int .u8 a2)), .f (.c (.int .u8 a3)), .f (.sl 6 (List.map arrR l).length ((List.map arrR l).flatMap rwF))] = _
 rw [h l, List.length_map]
 rfl
end Go.Ae

namespace Go.Ae
open Go.Ab Go.Proofs
set_option linter.unusedSimpArgs false
set_option maxHeartbeats 4000000 in
theorem d_lmatches {x : Raw} {i a0 a1 : Int} (hx : x.ok) (hi : 0 <= i /\ i < 256) (h0 : -128 <= a0 /\ a0 < 128) (h1 : -128 <= a1 /\ a1 < 128) : DK 3 [rawD x, .one (.f (.c (.int .u8 i))), .agg [.f (.c (.int .i8 a0)), .f (.c (.int .i8 a1))]] fun d => d = .bool true := by
 refine dfn_ok cp3 rfl GHro fun Z0 lo => ?_
 have hFi := made3_fine x
 have hFe := made3_few hx
 have hm := d_lmade hx
 generalize made3 x = p at *
 obtain ⟨k, hk⟩ : ∃ k : Nat, i.tmod 8 = (k : Int) := ⟨(i.tmod 8).toNat, by have := Int.tmod_nonneg 8 hi.1; omega⟩
 have hk8 : k < 8 := by have := Int.tmod_lt_of_pos i (show (0 : Int) < 8 by omega); omega
 have w0 : IntKind.i64.wrap i = i := dwrap oM oM
 have w1 : IntKind.i64.wrap a0 = a0 := dwrap oM oM
 have w2 : IntKind.i64.wrap a1 = a1 := dwrap oM oM
 have hq : Small 1000000 ((a0, a1) : Pt2) := by unfold Small; simp only; omega
 have hpl := lblP_len k (a0, a1)
 refine goD ?_; intros
 refine dw_cf rfl rfl d_sanity ?_
 rintro _ rfl
 refine goD ?_; intros
 rw [w0, hk, w1, w2]
 refine dw_keep (SubA.cons (k := 3) rfl (SubA.cons (k := 7) rfl (SubA.cons (k := 8) rfl (SubA.cons (k := 9) rfl (SubA.cons (k := 25) rfl (SubA.nil _)))))) (SubA.cons (k := 0) rfl (SubA.cons (k := 2) rfl (SubA.nil _))) ?_
 refine dw_cf rfl rfl (d_cells hk8) ?_
 rintro _ rfl
 refine goD ?_; intros
 refine dw_cf rfl rfl (d_rcells hk8) ?_
 rintro _ rfl
 unfold cell2
 generalize dgt k = v
 have b0 : (v != v) = false := by simp
 refine goB ?_; intros
 refine dw_if (j := 0) (q := [.c (.int .u8 60)]) rfl rfl (by decide) (by decide) rfl ?_
 refine goB ?_; intros
 refine dw_if (j := 0) (q := [.c (.int .u8 60)]) rfl rfl (by decide) (by decide) rfl ?_
 refine goB ?_; intros
 refine dw_if (j := 1) (q := [.c (.int .u8 v)]) rfl rfl (by decide) (by decide) rfl ?_
 refine goB ?_; intros
 refine dw_if (j := 1) (q := [.c (.int .u8 v)]) rfl rfl (by decide) (by decide) rfl ?_
 refine goB ?_; intros
 refine dw_cf rfl rfl (d_lpoints (i := k) (q := (a0, a1)) hk8 hq) ?_
 rintro _ rfl
 refine goD ?_; intros
 refine dw_cf rfl rfl (d_rlpoints (i := k) (q := (a0, a1)) hk8 hq) ?_
 rintro _ rfl
 refine goD ?_; intros
 refine dw_cf rfl rfl (d_same (l := lblP k (a0, a1)) (r := lblP k (a0, a1)) oM) ?_
 rintro _ rfl
 rw [decide_eq_true (rfl : lblP k (a0, a1) = lblP k (a0, a1))]
 refine goD ?_; intros
 refine ds_if rfl (fun h => by cases h) (fun _ => ?_)
 refine ds_keep (SubA.cons (k := 3) rfl (SubA.cons (k := 7) rfl (SubA.nil _))) (SubA.cons (k := 0) rfl (SubA.nil _)) ?_
 refine goD ?_; intros
 refine dw_cf rfl rfl hm ?_
 rintro _ rfl
 cases hv : validPic p with
 | false =>
  refine goD ?_; intros
  exact ds_ret ⟨_, rfl, rfl, rfl⟩
 | true =>
  refine goD ?_; intros
  refine dw_cf rfl rfl (d_place hFi hFe) ?_
  rintro _ ⟨r, hr, _, rfl⟩
  have hr := hr hv
  refine goD ?_; intros
  refine dw_cf rfl rfl (d_rplace hv) ?_
  rintro _ ⟨r', hr', rfl⟩
  obtain rfl := hr'.uniq hr
  have hrl : r'.1.length < 1000000000 := by
   have hl8 := (validPic_fs hv).1
   cases hr with
   | bad => exact Nat.zero_lt_succ _
   | ok hok => simp only; rw [plc_len hl8.1 hok]; omega
  refine goD ?_; intros
  refine dw_cf rfl rfl (d_psame (a := r') (b := r') hrl) ?_
  rintro _ rfl
  rw [decide_eq_true (rfl : r' = r')]
  refine goD ?_; intros
  exact ds_ret ⟨_, rfl, rfl, rfl⟩
theorem candP_mem {p : Pic} (hv : validPic p = true) {i : Nat} {q : Pt2} : q ∈ candP p i ↔ fitsP p i q = true := by
 have hh := (validPic_fs hv).2.2.1
 simp only [headOk, Bool.and_eq_true, decide_eq_true_eq] at hh
 obtain ⟨⟨⟨hw1, hw2⟩, hw3⟩, ⟨hh1, hh2⟩, hh3⟩ := hh
 rw [Int.tmod_eq_emod_of_nonneg (by omega)] at hw3 hh3
 constructor
 ·intro h
  unfold candP candN rowC at h
  obtain ⟨y, _, h⟩ := List.mem_flatMap.1 h
  exact (List.mem_filter.1 h).2
 ·intro h
  have h2 := h
  rw [fitsP, Bool.and_eq_true] at h2
  have h3 := h2.1
  simp only [fitsH, Bool.and_eq_true, decide_eq_true_eq] at h3
  unfold candP candN rowC
  refine List.mem_flatMap.2 ⟨q.2.toNat, List.mem_range.2 oM, List.mem_filter.2 ⟨List.mem_map.2 ⟨q.1.toNat, List.mem_range.2 oM, ?_⟩, h⟩⟩
  ext
  ·simp only; omega
  ·simp only; omega
theorem rowC_rows (p : Pic) (i y n : Nat) : ByRows (rowC p i y n) := by
 refine List.Pairwise.filter _ ?_
 refine List.Pairwise.map _ (fun a b (hab : a < b) => ?_) List.pairwise_lt_range
 exact (sb_iff _ _).2 (.inr ⟨rfl, Int.ofNat_lt.2 hab⟩)
theorem candN_rows (p : Pic) (i w : Nat) : ∀ n, ByRows (candN p i w n)
 | 0 => List.Pairwise.nil
 | n + 1 => by
  rw [candN_succ]
  refine List.pairwise_append.2 ⟨candN_rows p i w n, rowC_rows p i n w, fun a ha b hb => ?_⟩
  unfold candN rowC at ha
  unfold rowC at hb
  obtain ⟨y, hy, ha⟩ := List.mem_flatMap.1 ha
  obtain ⟨x, _, rfl⟩ := List.mem_map.1 (List.mem_filter.1 ha).1
  obtain ⟨x', _, rfl⟩ := List.mem_map.1 (List.mem_filter.1 hb).1
  exact (sb_iff _ _).2 (.inl (Int.ofNat_lt.2 (List.mem_range.1 hy)))
theorem candP_rows (p : Pic) (i : Nat) : ByRows (candP p i) := candN_rows p i _ _
theorem legalF_iff {p : Pic} (hv : validPic p = true) {l : List Pt2} : legalF p l = true ↔ LegL p.gap (alls p p.fs.length) l := by
 unfold legalF
 rw [Bool.and_eq_true, decide_eq_true_eq, List.all_eq_true]
 constructor
 ·rintro ⟨h1, h2⟩
  refine ⟨by rw [alls_len]; exact h1, fun i q hq => ?_, fun i k a b hk ha hb => ?_⟩
  ·have hi := (List.getElem?_eq_some_iff.1 hq).1
   have := h2 i (List.mem_range.2 hi)
   rw [legal1, Bool.and_eq_true, at0_of hq] at this
   rw [alls_at (by omega)]
   exact (candP_mem hv).2 this.1
  ·have hi := (List.getElem?_eq_some_iff.1 ha).1
   have := h2 i (List.mem_range.2 hi)
   rw [legal1, Bool.and_eq_true, at0_of ha] at this
   have := List.all_eq_true.1 this.2 k (List.mem_range.2 hk)
   rw [at0_of hb] at this
   simpa using this
 ·intro h
  have hle := h.le
  rw [alls_len] at hle
  refine ⟨hle, fun i hi => ?_⟩
  have hi := List.mem_range.1 hi
  obtain ⟨q, hq⟩ : ∃ q, l[i]? = some q := ⟨_, List.getElem?_eq_getElem hi⟩
  rw [legal1, Bool.and_eq_true, at0_of hq]
  refine ⟨?_, ?_⟩
  ·have := h.ch i q hq
   rw [alls_at (by omega)] at this
   exact (candP_mem hv).1 this
  ·rw [List.all_eq_true]
   intro k hk
   have hk := List.mem_range.1 hk
   obtain ⟨b, hb⟩ : ∃ q, l[k]? = some q := ⟨_, List.getElem?_eq_getElem oM⟩
   rw [at0_of hb, h.ap i k q b hk hq hb]
   rfl
theorem sAt_last {p : Pic} (h1 : 1 <= p.fs.length) : sAt p (p.fs.length - 1) = srch p.gap (alls p p.fs.length) p.fs.length [] := by
 obtain ⟨k, hk⟩ : ∃ k, p.fs.length = k + 1 := ⟨p.fs.length - 1, oM⟩
 rw [hk]
 rfl
theorem plc_leg {p : Pic} (h1 : 1 <= p.fs.length) (hok : ∀ j, j < p.fs.length -> ¬ (sAt p j).length <= j) : LegL p.gap (alls p p.fs.length) (sAt p (p.fs.length - 1)) := by
 have hl := plc_len h1 hok
 rw [sAt_last h1] at hl ⊢
 exact (srch_sound (LegL.nil _ _) (n := p.fs.length) (by rw [alls_len]; simp) (by rw [hl, alls_len])).1
theorem take_before {C : List Pt2} (hC : ByRows C) {i : Nat} {a b : Pt2} (hb : C[i]? = some b) (ha : a ∈ C) (hab : before a b = true) : a ∈ C.take i := by
 obtain ⟨j, hj⟩ := List.getElem?_of_mem ha
 have hji : j < i := by
  rcases Nat.lt_trichotomy j i with h|h|h
  ·exact h
  ·subst h
   rw [hb] at hj
   obtain rfl := Option.some.inj hj
   rw [sb_irrefl] at hab
   cases hab
  ·have := List.pairwise_iff_getElem.1 hC i j (List.getElem?_eq_some_iff.1 hb).1 (List.getElem?_eq_some_iff.1 hj).1 h
   rw [(List.getElem?_eq_some_iff.1 hb).2, (List.getElem?_eq_some_iff.1 hj).2] at this
   rw [sb_iff] at hab this
   omega
 refine List.mem_iff_getElem?.2 ⟨j, ?_⟩
 rw [List.getElem?_take, if_pos hji]
 exact hj
theorem srch_first {g : Int} {all : List (List Pt2)} (hr : ∀ C ∈ all, ByRows C) : ∀ {n : Nat} {l L : List Pt2} {k : Nat} {a b : Pt2}, l.length + n = all.length -> LegL g all l -> (srch g all n l).length = all.length -> LegL g all L -> L.length = all.length -> l.length <= k -> L.take k = (srch g all n l).take k -> L[k]? = some a -> (srch g all n l)[k]? = some b -> before a b = true -> False
 | 0, l, L, k, a, b, hn, _, hlen, _, _, hk, _, _, hb, _ => by
  have := (List.getElem?_eq_some_iff.1 hb).1
  omega
 | n + 1, l, L, k, a, b, hn, hl, hlen, hL, hLl, hk, ht, ha, hb, hab => by
  obtain ⟨C, hC⟩ : ∃ C, all[l.length]? = some C := ⟨_, List.getElem?_eq_getElem oM⟩
  have hCg : (all[l.length]?).getD [] = C := by rw [hC]; rfl
  have hCr := hr C (List.mem_of_getElem? hC)
  have hsnd := (srch_sound hl hn hlen).2
  obtain ⟨t, ht2⟩ := hsnd
  have hLpre : L.take l.length = l := by
   have : (L.take k).take l.length = ((srch g all (n + 1) l).take k).take l.length := by rw [ht]
   rw [List.take_take, List.take_take, Nat.min_eq_left hk, ht2, List.take_left] at this
   exact this
  rw [srch_eq, hCg] at hlen hb ht ht2
  rcases tryL_spec (f := stepF g all n l) (N := all.length) C with ⟨h1, _⟩|⟨i, c, h1, h2, h3, h4⟩
  ·rw [h1] at hlen
   simp at hlen
   omega
  ·rw [h4] at hlen hb ht ht2
   have hf : freeK g l c l.length = true := by
    unfold stepF at h3
    by_cases hf : freeK g l c l.length = true
    ·exact hf
    ·rw [if_neg hf] at h3
     simp at h3
     omega
   have hs : stepF g all n l c = srch g all n (l ++ [c]) := by rw [stepF, if_pos hf]
   have hlc := hl.snoc (by omega) (by rw [hCg]; exact List.mem_of_getElem? h1) hf
   rw [hs] at hlen hb ht ht2
   have hsnd := (srch_sound hlc (n := n) (by rw [List.length_append, List.length_singleton]; omega) hlen).2
   obtain ⟨t2, ht3⟩ := hsnd
   by_cases hkl : k = l.length
   ·subst hkl
    rw [ht3, List.append_assoc] at hb
    simp at hb
    subst hb
    have hLC := hL.ch _ a ha
    rw [hCg] at hLC
    have hmem := take_before hCr h1 hLC hab
    have := h2 a hmem
    have hcomp := srch_complete hL hLl (n := n) (i := l.length + 1) oM
    rw [take_snoc ha, hLpre] at hcomp
    have hfa := free_of hL ha
    rw [hLpre] at hfa
    rw [stepF, if_pos hfa] at this
    exact this hcomp
   ·exact srch_first hr (n := n) (l := l ++ [c]) (k := k) (by rw [List.length_append, List.length_singleton]; omega) hlc hlen hL hLl (by rw [List.length_append, List.length_singleton]; omega) ht ha hb hab
theorem alls_rows (p : Pic) (n : Nat) : ∀ C ∈ alls p n, ByRows C := fun C hC => by
 obtain ⟨i, _, rfl⟩ := List.mem_map.1 hC
 exact candP_rows p i
def raw2 (x : Raw) : Raw := ⟨x.w, x.h, x.g, x.f.take (min x.f.length 2)⟩
theorem raw2_ok {x : Raw} (hx : x.ok) : (raw2 x).ok := ⟨hx.1, fun r hr => hx.2 r (List.mem_of_mem_take hr)⟩
theorem made2_len (x : Raw) : (made3 (raw2 x)).fs.length <= 2 := by
 show (mF (raw3 (raw2 x))).length <= 2
 unfold mF
 split
 ·decide
 ·rw [List.length_map, List.length_take]
  simp only [raw3, raw2, List.length_take]
  omega
theorem no_before {p : Pic} (hv : validPic p = true) (hok : ∀ j, j < p.fs.length -> ¬ (sAt p j).length <= j) {L : List Pt2} {k : Nat} {a b : Pt2} (hL : legalP p L = true) (ht : L.take k = (sAt p (p.fs.length - 1)).take k) (ha : L[k]? = some a) (hb : (sAt p (p.fs.length - 1))[k]? = some b) : before a b = false := by
 have hl8 := (validPic_fs hv).1
 rw [legalP, Bool.and_eq_true, decide_eq_true_eq, legalF_iff hv] at hL
 have hlen := plc_len hl8.1 hok
 rw [sAt_last hl8.1] at ht hb hlen
 cases hab : before a b with
 | false => rfl
 | true => exact (srch_first (alls_rows p p.fs.length) (n := p.fs.length) (l := []) (by rw [alls_len]; simp) (LegL.nil _ _) (by rw [hlen, alls_len]) hL.2 (by rw [hL.1, alls_len]) (Nat.zero_le _) ht ha hb hab).elim
set_option maxHeartbeats 8000000 in
theorem fr_first {Z0 : Nat -> Prop} {lo nk : Nat} {p : Pic} {r0 r1 q : Pt2} (hv : validPic p = true) (hlen : [r0, r1].length = p.fs.length) (hqs : Small 1000000 q) (hno : ∀ {L : List Pt2} {k : Nat} {a b : Pt2}, legalP p L = true -> List.take k L = List.take k [r0, r1] -> L[k]? = some a -> [r0, r1][k]? = some b -> before a b = false) :
  DPS (Par.base Tryz.prog 1 (H00 1) Z0 lo) f5.n (.seq (.seq (.ops f5r16 14) (.cond (.t 101) (.seq (.ops f5r17 0) .ret) .skip)) (.seq (.ops f5r18 0) (.seq (.seq (.ops f5r19 0) (.block 0 (.loop f5b0))) (.seq (.ops f5r24 0) .ret)))) (retD (Par.base Tryz.prog 1 (H00 1) Z0 lo) f5.res fun d => d = .bool true)
  [(5, .bool true), (6, .one (.fptr (picF p))), (8, .one (.fptr [.sl 2 2 ([r0, r1].flatMap ptF), .c (.int .i64 2), .c (.int .i64 0)])), (9, .one (.fptr (ptF q)))] [] nk := by
 have hlen : 2 = p.fs.length := hlen
 refine ds_wk (E0 := [(5, .bool true), (6, .one (.fptr (picF p))), (8, .one (.fptr [.sl 2 2 ([r0, r1].flatMap ptF), .c (.int .i64 2), .c (.int .i64 0)])), (9, .one (.fptr (ptF q)))]) (S0 := []) (n0 := 0) [] ⟨(by repeat (first|exact trivial|refine ⟨by first|rfl|exact cgI oM oM, rfl, ?_⟩)), trivial, rfl, rfl⟩ ?_
 refine goD ?_; intros
 refine dw_if (j := 0) (q := ptF r0) rfl rfl (Nat.zero_lt_succ _) (by decide) rfl ?_
 refine goD ?_; intros
 refine dw_cf rfl rfl (d_before (a := q) (b := r0)) ?_
 rintro _ rfl
 cases hbf : before q r0 with
 | false =>
  refine goD ?_; intros
  refine ds_if rfl (fun _ => ?_) (fun h => by cases h)
  refine goD ?_; intros
  exact ds_ret ⟨_, rfl, rfl, rfl⟩
 | true =>
  have hc := d_legalFor (p := p) (l := [q]) hv (fun r hr => by rw [List.mem_singleton] at hr; rw [hr]; exact hqs)
  refine goD ?_; intros
  refine dw_frz 0 rfl okZ okZ ?_
  refine dw_cf rfl rfl hc ?_
  rintro _ rfl
  cases legalF p [q] with
  | false =>
   refine goD ?_; intros
   refine ds_if rfl (fun _ => ?_) (fun h => by cases h)
   refine goD ?_; intros
   exact ds_ret ⟨_, rfl, rfl, rfl⟩
  | true =>
   have hC := candP_small hv 1
   refine goD ?_; intros
   refine ds_if rfl (fun h => by cases h) (fun _ => ?_)
   refine goD ?_; intros
   refine dw_cf rfl rfl (d_cands (p := p) (i := 1) hv oM) ?_
   rintro _ rfl
   generalize candP p 1 = C at hC
   refine goD ?_; intros
   refine ds_loop (fun m E S nk => ∃ j : Nat, j + m = C.length /\ E = [(5, .bool true), (6, .one (.fptr (picF p))), (9, .one (.fptr (ptF q))), (10, ptsD C), (11, .int j)] /\ S = [] /\ nk = 0)
    ⟨C.length, _, _, _, [], ?wk, 0, oM, rfl, rfl, rfl⟩ ?_
   case wk => exact wkA
   rintro m E S nk ⟨j, hj, rfl, rfl, rfl⟩
   refine goD ?_; intros
   refine ds_if rfl (fun hj2 => ?_) (fun hj2 => ?_)
   ·have hj2 : j < C.length := by have := of_decide_eq_true hj2; omega
    obtain ⟨c, hcj⟩ : ∃ r, C[j]? = some r := ⟨_, List.getElem?_eq_getElem hj2⟩
    have e1 := ptF_at hcj
    have hl1 : legalP p [q, c] = false := by
     rw [<- Bool.not_eq_true]
     intro h
     rw [hno h (k := 0) rfl rfl rfl] at hbf
     cases hbf
    have hc2 := d_rlegal (p := p) (l := [q, c]) hv (fun r hr => by
     rcases List.mem_cons.1 hr with rfl|hr
     ·exact hqs
     ·rw [List.mem_singleton] at hr; rw [hr]; exact hC.1 c (List.mem_of_getElem? hcj))
    rw [hl1] at hc2
    refine goD ?_; intros
    refine dw_frz 0 rfl okZ okZ ?_
    refine dw_cf rfl rfl hc2 ?_
    rintro _ rfl
    refine goD ?_; intros
    refine ds_if rfl (fun h => by cases h) (fun _ => ?_)
    refine goD ?_; intros
    refine ⟨m - 1, oM, _, _, _, [], ?wk2, j + 1, oM, rfl, rfl, rfl⟩
    case wk2 => exact wkA
   ·refine goD ?_; intros
    exact ds_ret ⟨_, rfl, rfl, rfl⟩
set_option maxHeartbeats 8000000 in
theorem d_lfirst {x : Raw} {a0 a1 : Int} (hx : x.ok) (h0 : 0 <= a0 /\ a0 < 256) (h1 : 0 <= a1 /\ a1 < 256) : DK 5 [rawD x, .agg [.f (.c (.int .u8 a0)), .f (.c (.int .u8 a1))]] fun d => d = .bool true := by
 refine dfn_ok cp5 rfl GHro fun Z0 lo => ?_
 have hFi := made3_fine (raw2 x)
 have hFe := made3_few (raw2_ok hx)
 have hm := d_lmade (raw2_ok hx)
 have hn2 := made2_len x
 generalize made3 (raw2 x) = p at *
 have hl : (raw2 x).f.length = min x.f.length 2 := by simp only [raw2, List.length_take]; omega
 obtain ⟨k, hk⟩ : ∃ k : Nat, k = min x.f.length 2 := ⟨_, rfl⟩
 have hk2 : min (x.f.length : Int) 2 = ((k : Nat) : Int) := by omega
 refine goD ?_; intros
 refine dw_cf rfl rfl d_sanity ?_
 rintro _ rfl
 refine goD ?_; intros
 rw [hk2]
 refine dw_slf (q := (x.f.take k).flatMap rwF) (n' := k) rfl rfl rfl oM oM oM (rwF_take oM) ?_
 refine goD ?_; intros
 subst hk
 refine dw_cf (ds := [rawD (raw2 x)]) (congrArg (fun z => some [DV.agg [.f (.c (.int .u8 x.w)), .f (.c (.int .u8 x.h)), .f (.c (.int .u8 x.g)), .f (.sl 6 z ((x.f.take (min x.f.length 2)).flatMap rwF))]]) hl.symm) rfl hm ?_
 rintro _ rfl
 cases hv : validPic p with
 | false =>
  refine goD ?_; intros
  refine ds_if rfl (fun _ => ?_) (fun h => by cases h)
  refine goD ?_; intros
  exact ds_ret ⟨_, rfl, rfl, rfl⟩
 | true =>
  have hl8 := (validPic_fs hv).1
  refine goD ?_; intros
  refine ds_if rfl (fun h => by cases h) (fun _ => ?_)
  refine goD ?_; intros
  refine dw_cf rfl rfl (d_place hFi hFe) ?_
  rintro _ ⟨r, hr, _, rfl⟩
  have hr := hr hv
  cases hr with
  | bad i hi hb hok =>
   refine goD ?_; intros
   refine ds_if rfl (fun _ => ?_) (fun h => by cases h)
   refine goD ?_; intros
   exact ds_ret ⟨_, rfl, rfl, rfl⟩
  | ok hok =>
   have hlen := plc_len hl8.1 hok
   have hno := fun {L k a b} => no_before (p := p) (L := L) (k := k) (a := a) (b := b) hv hok
   have hleg := plc_leg hl8.1 hok
   generalize sAt p (p.fs.length - 1) = l at hlen hno hleg
   have b1 : ((l.length : Int) != (p.fs.length : Int)) = false := by rw [hlen]; simp
   have w1 : IntKind.i64.wrap a0 = a0 := dwrap oM oM
   have w2 : IntKind.i64.wrap a1 = a1 := dwrap oM oM
   have q1 := Int.tmod_nonneg 18 h0.1
   have q2 := Int.tmod_nonneg 12 h1.1
   have q3 := Int.tmod_lt_of_pos a0 (show (0 : Int) < 18 by omega)
   have q4 := Int.tmod_lt_of_pos a1 (show (0 : Int) < 12 by omega)
   refine goD ?_; intros
   refine ds_if rfl (fun h => by cases h) (fun _ => ?_)
   refine goB ?_; intros
   refine ds_if rfl (fun h => by cases h) (fun _ => ?_)
   iterate 11 (first|(refine dw_want rfl rfl ?_)|(refine dw_skip rfl rfl ?_)|(refine dw_skipU rfl ?_)|(refine dw_pickT rfl rfl ?_)|(refine dw_pickF rfl rfl ?_)|(refine dw_pick rfl dgA dgA ?_)|(refine dw_max rfl rfl ?_)|(refine dw_min rfl rfl ?_)|(refine dw_p rfl ?_)|(refine dw_l rfl ?_)|(refine dw_lk rfl ?_)|(refine dw_pg rfl dgA ?_)|(refine dw_lg rfl dgA ?_)|(refine dw_io1 rfl rfl oM oM ?_)|(refine dw_io0 rfl rfl oM oM ?_)|(refine dw_it0 rfl rfl oM oM ?_)|(refine dw_if0 rfl rfl oM (by decide) aM ?_)|(refine dw_if rfl rfl oM (by decide) aM ?_)|(refine dw_l (dload_data rfl rfl aM rfl) ?_)|(refine dw_lk (dload_data rfl rfl aM rfl) ?_)|(refine dw_l (dload_tree rfl rfl aM) ?_)|(refine dw_lk (dload_tree rfl rfl aM) ?_)|(refine dw_l (dload_tptr rfl rfl aM aM) ?_)|(refine dw_lk (dload_tptr rfl rfl aM aM) ?_)|(refine dw_a rfl ?_)|(refine dw_ai rfl rfl rfl ?_)|(refine dw_st rfl rfl rfl rfl rfl (Nat.le_of_ble_eq_true rfl) rfl ?_)|(refine dw_nil ?_)|(refine ds_seq ?_)|(refine ds_ops mix (fun base => ?_))|(refine ds_skip ?_)|(refine ds_block ?_)|(refine ds_exit ?_))
   rw [w1, w2]
   iterate 4 (first|(refine dw_want rfl rfl ?_)|(refine dw_skip rfl rfl ?_)|(refine dw_skipU rfl ?_)|(refine dw_pickT rfl rfl ?_)|(refine dw_pickF rfl rfl ?_)|(refine dw_pick rfl dgA dgA ?_)|(refine dw_max rfl rfl ?_)|(refine dw_min rfl rfl ?_)|(refine dw_p rfl ?_)|(refine dw_l rfl ?_)|(refine dw_lk rfl ?_)|(refine dw_pg rfl dgA ?_)|(refine dw_lg rfl dgA ?_)|(refine dw_io1 rfl rfl oM oM ?_)|(refine dw_io0 rfl rfl oM oM ?_)|(refine dw_it0 rfl rfl oM oM ?_)|(refine dw_if0 rfl rfl oM (by decide) aM ?_)|(refine dw_if rfl rfl oM (by decide) aM ?_)|(refine dw_l (dload_data rfl rfl aM rfl) ?_)|(refine dw_lk (dload_data rfl rfl aM rfl) ?_)|(refine dw_l (dload_tree rfl rfl aM) ?_)|(refine dw_lk (dload_tree rfl rfl aM) ?_)|(refine dw_l (dload_tptr rfl rfl aM aM) ?_)|(refine dw_lk (dload_tptr rfl rfl aM aM) ?_)|(refine dw_a rfl ?_)|(refine dw_ai rfl rfl rfl ?_)|(refine dw_st rfl rfl rfl rfl rfl (Nat.le_of_ble_eq_true rfl) rfl ?_)|(refine dw_nil ?_)|(refine ds_seq ?_)|(refine ds_ops mix (fun base => ?_))|(refine ds_skip ?_)|(refine ds_block ?_)|(refine ds_exit ?_))
   obtain ⟨q, hq⟩ : ∃ q : Pt2, q = (a0.tmod 18, a1.tmod 12) := ⟨_, rfl⟩
   have hqs : Small 1000000 q := by rw [hq]; unfold Small; simp only; omega
   refine ds_keep (E0 := [(5, .bool true), (6, .one (.ptr 2 0)), (8, .one (.ptr 3 0)), (9, .one (.ptr 4 0))]) (S0 := [(2, .cells (picC p)), (3, .cells [.f (.sl 2 l.length (l.flatMap ptF)), .f (.c (.int .i64 l.length)), .f (.c (.int .i64 0))]), (4, .cells [.f (.c (.int .i64 q.1)), .f (.c (.int .i64 q.2))])])
    (SubA.cons rfl (SubA.cons rfl (SubA.cons rfl (SubA.cons rfl (SubA.nil _))))) (SubA.cons rfl (SubA.cons rfl (SubA.cons (by rw [hq]; rfl) (SubA.nil _)))) ?_
   clear hq w1 w2 q1 q2 q3 q4 b1
   refine ds_frzP 2 (fs := picF p) rfl ?_
   refine ds_frzP 3 (fs := [.sl 2 l.length (l.flatMap ptF), .c (.int .i64 l.length), .c (.int .i64 0)]) rfl ?_
   refine ds_frzP 4 (fs := ptF q) rfl ?_
   match l, hlen with
   | [], hlen => simp at hlen; omega
   | [r0], hlen =>
    have b1 : ((p.fs.length : Int) == 1) = true := by rw [<- hlen]; rfl
    refine goB ?_; intros
    refine ds_if rfl (fun _ => ?_) (fun h => by cases h)
    refine goD ?_; intros
    refine dw_if (j := 0) (q := ptF r0) rfl rfl (Nat.zero_lt_succ _) (by decide) rfl ?_
    refine goD ?_; intros
    refine dw_cf rfl rfl (d_before (a := q) (b := r0)) ?_
    rintro _ rfl
    cases hbf : before q r0 with
    | false =>
     refine goD ?_; intros
     exact ds_ret ⟨_, rfl, rfl, rfl⟩
    | true =>
     have hl1 : legalP p [q] = false := by
      rw [<- Bool.not_eq_true]
      intro h
      rw [hno h rfl (k := 0) rfl rfl] at hbf
      cases hbf
     have hc := d_rlegal (p := p) (l := [q]) hv (fun r hr => by rw [List.mem_singleton] at hr; rw [hr]; exact hqs)
     rw [hl1] at hc
     refine goD ?_; intros
     refine dw_frz 5 rfl okZ okZ ?_
     refine dw_cf rfl rfl hc ?_
     rintro _ rfl
     refine goD ?_; intros
     exact ds_ret ⟨_, rfl, rfl, rfl⟩
   | [r0, r1], hlen =>
    have b1 : ((p.fs.length : Int) == 1) = false := by rw [<- hlen]; rfl
    refine goB ?_; intros
    refine ds_if rfl (fun h => by cases h) (fun _ => ?_)
    refine goD ?_; intros
    refine dw_if (j := 1) (q := ptF r1) rfl rfl (Nat.lt_succ_self 1) (by decide) rfl ?_
    refine goD ?_; intros
    refine dw_cf rfl rfl (d_before (a := q) (b := r1)) ?_
    rintro _ rfl
    cases hbf : before q r1 with
    | false =>
     refine goD ?_; intros
     refine ds_if rfl (fun h => by cases h) (fun _ => ?_)
     refine ds_skip ?_
     refine ds_keep (E0 := [(5, .bool true), (6, .one (.fptr (picF p))), (8, .one (.fptr [.sl 2 2 ([r0, r1].flatMap ptF), .c (.int .i64 2), .c (.int .i64 0)])), (9, .one (.fptr (ptF q)))]) (S0 := [])
      (SubA.cons rfl (SubA.cons rfl (SubA.cons rfl (SubA.cons rfl (SubA.nil _))))) (SubA.nil _) ?_
     exact fr_first hv hlen hqs hno
    | true =>
     have hl1 : legalP p [r0, q] = false := by
      rw [<- Bool.not_eq_true]
      intro h
      rw [hno h (k := 1) rfl rfl rfl] at hbf
      cases hbf
     have hc := d_rlegal (p := p) (l := [r0, q]) hv (fun r hr => by
      rcases List.mem_cons.1 hr with rfl|hr
      ·have g1 := hleg.ch 0 r rfl
       rw [alls_at (by omega)] at g1
       exact (candP_small hv 0).1 r g1
      ·rw [List.mem_singleton] at hr; rw [hr]; exact hqs)
     rw [hl1] at hc
     refine goD ?_; intros
     refine dw_if (j := 0) (q := ptF r0) rfl rfl (Nat.zero_lt_succ _) (by decide) rfl ?_
     refine goD ?_; intros
     refine dw_frz 5 rfl okZ okZ ?_
     refine dw_cf rfl rfl hc ?_
     rintro _ rfl
     refine goD ?_; intros
     refine ds_if rfl (fun h => by cases h) (fun _ => ?_)
     refine ds_skip ?_
     refine ds_keep (E0 := [(5, .bool true), (6, .one (.fptr (picF p))), (8, .one (.fptr [.sl 2 2 ([r0, r1].flatMap ptF), .c (.int .i64 2), .c (.int .i64 0)])), (9, .one (.fptr (ptF q)))]) (S0 := [])
      (SubA.cons rfl (SubA.cons rfl (SubA.cons rfl (SubA.cons rfl (SubA.nil _))))) (SubA.nil _) ?_
     exact fr_first hv hlen hqs hno
   | _ :: _ :: _ :: _, hlen => simp at hlen; omega
theorem sortedP_id {l : List Pt2} (h : ByRows l) : sortedP l = l := ByRows.ext (sortedP_rows l) h fun _ => sortedP_mem
theorem lblP_piv {i : Nat} {q : Pt2} : ∀ r ∈ lblP i q, far r (lbQ q 1) <= 2 /\ far (lbQ q 1) r <= 2 := fun r hr => by
 unfold lblP lbl at hr
 obtain ⟨k, hk, rfl⟩ := List.mem_map.1 hr
 have := List.mem_range.1 (List.mem_filter.1 hk).1
 simp only [far, lbQ]
 omega
theorem lblP_conn {g : Int} (hg : 2 <= g) (i : Nat) (q : Pt2) : cl1 g (lblP i q) = true := (cl1_iff (lblP_ne i q)).2 fun x hx y hy => by
 have h1 := (lblP_piv x hx).1
 have h2 := (lblP_piv y hy).2
 exact (Conn.step (Conn.step (.base hx) (lblP_first i q) oM) hy oM)
def pAt (p : Pic) (i : Nat) : List Pt2 := ((ptsOf p)[i]?).getD []
def partsP (p : Pic) (l : List Pt2) (n : Nat) : List (List Pt2) := (List.range n).flatMap fun i => [pAt p i, lblP i (at0 l i)]
theorem partsP_succ (p : Pic) (l : List Pt2) (n : Nat) : partsP p l (n + 1) = partsP p l n ++ [pAt p n, lblP n (at0 l n)] := by
 simp [partsP, List.range_succ]
theorem partsP_mem {p : Pic} {l : List Pt2} {n : Nat} {a : List Pt2} : a ∈ partsP p l n ↔ ∃ i, i < n /\ (a = pAt p i \/ a = lblP i (at0 l i)) := by
 unfold partsP
 rw [List.mem_flatMap]
 constructor
 ·rintro ⟨i, hi, ha⟩
  exact ⟨i, List.mem_range.1 hi, by simpa using ha⟩
 ·rintro ⟨i, hi, ha⟩
  exact ⟨i, List.mem_range.2 hi, by simpa using ha⟩
theorem partsP_len (p : Pic) (l : List Pt2) (n : Nat) : (partsP p l n).length = 2 * n := by
 induction n with
 | zero => rfl
 | succ n ih => rw [partsP_succ, List.length_append, ih]; simp only [List.length_cons, List.length_nil]; omega
theorem pAt_of {p : Pic} {i : Nat} (h : i < (ptsOf p).length) : (ptsOf p)[i]? = some (pAt p i) := by
 rw [pAt, List.getElem?_eq_getElem h]
 rfl
theorem parts_good1 {p : Pic} {l : List Pt2} (h2 : 2 <= p.gap) (hg : Good1 p.gap (ptsOf p)) : Good1 p.gap (partsP p l (ptsOf p).length) := fun a ha => by
 obtain ⟨i, hi, rfl|rfl⟩ := partsP_mem.1 ha
 ·exact hg _ (List.mem_of_getElem? (pAt_of hi))
 ·exact lblP_conn h2 _ _
theorem lbl_far {p : Pic} {i k : Nat} {q : Pt2} (hf : fitsP p i q = true) (hk : k < (ptsOf p).length) : ¬ dist (lblP i q) (pAt p k) <= p.gap := by
 rw [fitsP, Bool.and_eq_true, Bool.and_eq_true] at hf
 have := List.all_eq_true.1 hf.2.1 _ (List.mem_of_getElem? (pAt_of hk))
 rw [farL] at this
 simpa using this
theorem parts_good2 {p : Pic} {l : List Pt2} (hfit : ∀ i q, l[i]? = some q -> fitsP p i q = true) (hap : ∀ (i k : Nat) (a b : Pt2), k < i -> l[i]? = some a -> l[k]? = some b -> clashP p.gap i a k b = false) (hg : Good2 p.gap (ptsOf p)) : ∀ n, n <= l.length -> n <= (ptsOf p).length -> (partsP p l n).Pairwise fun a b => ¬ dist a b <= p.gap
 | 0, _, _ => List.Pairwise.nil
 | n + 1, h1, h2 => by
  have ih := parts_good2 hfit hap hg n oM oM
  obtain ⟨q, hq⟩ : ∃ q, l[n]? = some q := ⟨_, List.getElem?_eq_getElem oM⟩
  have hqf := hfit n q hq
  rw [partsP_succ, at0_of hq]
  refine List.pairwise_append.2 ⟨ih, ?_, fun a ha b hb => ?_⟩
  ·refine List.pairwise_cons.2 ⟨fun b hb => ?_, List.pairwise_singleton _ _⟩
   rw [List.mem_singleton] at hb
   rw [hb, dist_comm]
   exact lbl_far hqf oM
  ·obtain ⟨i, hi, ha⟩ := partsP_mem.1 ha
   obtain ⟨r, hr⟩ : ∃ q, l[i]? = some q := ⟨_, List.getElem?_eq_getElem oM⟩
   rw [at0_of hr] at ha
   simp only [List.mem_cons, List.not_mem_nil, or_false] at hb
   rcases ha with rfl|rfl
   ·rcases hb with rfl|rfl
    ·exact hg i n _ _ hi (pAt_of oM) (pAt_of oM)
    ·rw [dist_comm]
     exact lbl_far hqf oM
   ·rcases hb with rfl|rfl
    ·exact lbl_far (hfit i r hr) oM
    ·have := hap n i q r hi hq hr
     rw [clashP_comm, clashP] at this
     simpa using this
theorem good2_of {g : Int} {l : List (List Pt2)} (h : l.Pairwise fun a b => ¬ dist a b <= g) : Good2 g l := fun i k a b hik ha hb => by
 have := List.pairwise_iff_getElem.1 h i k (List.getElem?_eq_some_iff.1 ha).1 (List.getElem?_eq_some_iff.1 hb).1 hik
 rw [(List.getElem?_eq_some_iff.1 ha).2, (List.getElem?_eq_some_iff.1 hb).2] at this
 exact this
theorem pointsF_rows {f : Ft} (hv : validF f = true) : ByRows (pointsF f) := by
 unfold pointsF
 split
 ·rename_i h1
  have hk := (valid_pts hv).2.2
  unfold kindOk at hk
  rw [if_pos h1] at hk
  simp at hk
  obtain ⟨q, hq⟩ := List.length_eq_one_iff.1 hk.1
  rw [hq]
  exact List.pairwise_singleton _ _
 ·split
  ·exact sortedP_rows _
  ·exact sortedP_rows _
theorem pAt_rows {p : Pic} (hv : validPic p = true) (i : Nat) : ByRows (pAt p i) := by
 unfold pAt
 cases h : (ptsOf p)[i]? with
 | none => exact List.Pairwise.nil
 | some l =>
  obtain ⟨f, hf, rfl⟩ := List.mem_map.1 (List.mem_of_getElem? h)
  exact pointsF_rows (validPic_v hv f hf)
theorem parts_want {p : Pic} (hv : validPic p = true) {l : List Pt2} (hl : LegL p.gap (alls p p.fs.length) l) (hlen : l.length = p.fs.length) (hg1 : Good1 p.gap (ptsOf p)) (hg2 : Good2 p.gap (ptsOf p)) {c : List (List Pt2)} (hc : ClS p.gap (sortedP (partsP p l p.fs.length).flatten) c) : c.length = 2 * p.fs.length /\ ∀ a ∈ partsP p l p.fs.length, sortedP a ∈ c := by
 have hgap : 2 <= p.gap /\ p.gap <= 6 := by
  have := (validPic_fs hv).2.2.2
  simp only [gapOk, Bool.and_eq_true, decide_eq_true_eq] at this
  exact this.1
 have hpl : (ptsOf p).length = p.fs.length := by simp [ptsOf]
 have hfit : ∀ i q, l[i]? = some q -> fitsP p i q = true := fun i q hq => by
  have h1 := hl.ch i q hq
  have h2 := (List.getElem?_eq_some_iff.1 hq).1
  rw [alls_at (by omega)] at h1
  exact (candP_mem hv).1 h1
 have hw := (apart_want (g := p.gap) (l := partsP p l p.fs.length) (fun a ha => ?_) oM hc).1 ⟨?_, good2_of (parts_good2 hfit hl.ap hg2 _ oM oM)⟩
 ·rw [partsP_len] at hw
  exact ⟨hw.1, fun a ha => cntP_mem (hw.2 a ha)⟩
 ·obtain ⟨i, hi, rfl|rfl⟩ := partsP_mem.1 ha
  ·exact ptsOf_ne hv _ (List.mem_of_getElem? (pAt_of oM))
  ·exact lblP_ne _ _
 ·have := parts_good1 (p := p) (l := l) hgap.1 hg1
  rw [hpl] at this
  exact this
theorem pAt_few {p : Pic} (hv : validPic p = true) (hF : Few p) (i : Nat) : (pAt p i).length <= 256 := by
 unfold pAt
 cases h : (ptsOf p)[i]? with
 | none => simp
 | some l =>
  obtain ⟨f, hf, rfl⟩ := List.mem_map.1 (List.mem_of_getElem? h)
  exact hF f hf (validPic_v hv f hf)
theorem partsP_sum {p : Pic} (hv : validPic p = true) (hF : Few p) (l : List Pt2) : ∀ n, (partsP p l n).flatten.length <= 268 * n
 | 0 => by simp [partsP]
 | n + 1 => by
  have h1 := partsP_sum hv hF l n
  have h2 := pAt_few hv hF n
  have h3 := lblP_len n (at0 l n)
  rw [partsP_succ, List.flatten_append, List.length_append]
  simp only [List.flatten_cons, List.flatten_nil, List.append_nil, List.length_append]
  omega
theorem pAt_small {p : Pic} (hv : validPic p = true) (i : Nat) : Smalls (pAt p i) := by
 unfold pAt
 cases h : (ptsOf p)[i]? with
 | none => exact fun q hq => by cases hq
 | some l => exact smalls60 (ptsOf_small hv l (List.mem_of_getElem? h)).1
theorem partsP_small {p : Pic} (hv : validPic p = true) {l : List Pt2} (hl : ∀ q ∈ l, Small 1000000 q) {n : Nat} (hn : n <= l.length) : Smalls (partsP p l n).flatten := fun r hr => by
 obtain ⟨a, ha, hra⟩ := List.mem_flatten.1 hr
 obtain ⟨i, hi, rfl|rfl⟩ := partsP_mem.1 ha
 ·exact pAt_small hv i r hra
 ·obtain ⟨q, hq⟩ : ∃ q, l[i]? = some q := ⟨_, List.getElem?_eq_getElem oM⟩
  rw [at0_of hq] at hra
  exact lblP_small (hl q (List.mem_of_getElem? hq)) r hra
set_option maxHeartbeats 16000000 in
theorem d_lplaces {x : Raw} (hx : x.ok) : DK 4 [rawD x] fun d => d = .bool true := by
 refine dfn_ok cp4 rfl GHro fun Z0 lo => ?_
 have hFi := made3_fine x
 have hFe := made3_few hx
 have hm := d_lmade hx
 generalize made3 x = p at *
 refine goD ?_; intros
 refine dw_cf rfl rfl d_sanity ?_
 rintro _ rfl
 refine goD ?_; intros
 refine dw_cf rfl rfl hm ?_
 rintro _ rfl
 cases hv : validPic p with
 | false =>
  refine goD ?_; intros
  refine ds_if rfl (fun _ => ?_) (fun h => by cases h)
  refine goD ?_; intros
  exact ds_ret ⟨_, rfl, rfl, rfl⟩
 | true =>
  have hl8 := (validPic_fs hv).1
  refine goD ?_; intros
  refine ds_if rfl (fun h => by cases h) (fun _ => ?_)
  refine goD ?_; intros
  refine dw_cf rfl rfl (d_place hFi hFe) ?_
  rintro _ ⟨r, hr, _, rfl⟩
  have hr := hr hv
  cases hr with
  | bad i hi hb hok =>
   refine goD ?_; intros
   refine ds_if rfl (fun _ => ?_) (fun h => by cases h)
   refine goD ?_; intros
   exact ds_ret ⟨_, rfl, rfl, rfl⟩
  | ok hok =>
   have hlen := plc_len hl8.1 hok
   have hleg := plc_leg hl8.1 hok
   generalize sAt p (p.fs.length - 1) = l at hlen hleg
   have hls : ∀ q ∈ l, Small 1000000 q := fun q hq => by
    obtain ⟨j, hj⟩ := List.getElem?_of_mem hq
    have h1 := hleg.ch j q hj
    have h2 := (List.getElem?_eq_some_iff.1 hj).1
    rw [alls_at (by omega)] at h1
    exact (candP_small hv j).1 q h1
   have hlp : legalP p l = true := by rw [legalP, decide_eq_true hlen, (legalF_iff hv).2 hleg]; rfl
   have c1 := d_rlegal (p := p) (l := l) hv hls
   have c2 := d_legal (p := p) (l := l) hFi hFe hls
   rw [hlp] at c1
   rw [hv, hlp] at c2
   have b1 : ((l.length : Int) != (p.fs.length : Int)) = false := by rw [hlen]; simp
   refine goD ?_; intros
   refine ds_if rfl (fun h => by cases h) (fun _ => ?_)
   refine goB ?_; intros
   refine dw_cf rfl rfl c1 ?_
   rintro _ rfl
   refine goD ?_; intros
   refine dw_cf rfl rfl c2 ?_
   rintro _ rfl
   refine goD ?_; intros
   refine ds_if rfl (fun h => by cases h) (fun _ => ?_)
   refine ds_keep (SubA.cons (k := 3) rfl (SubA.cons (k := 4) rfl (SubA.cons (k := 6) rfl (SubA.nil _)))) (SubA.cons (k := 1) rfl (SubA.cons (k := 2) rfl (SubA.nil _))) ?_
   refine goD ?_; intros
   refine dw_cf rfl rfl (d_rcheck hFi) ?_
   rintro _ ⟨r, hr, rfl⟩
   refine goD ?_; intros
   refine ds_if rfl (fun h0 => ?_) (fun h0 => ?_)
   ·refine goD ?_; intros
    exact ds_ret ⟨_, rfl, rfl, rfl⟩
   ·have h0 : r.2.2 = 0 := by simpa using h0
    obtain ⟨hg1, hg2⟩ := (hr.ok_iff hv).1 h0
    have hpl : (ptsOf p).length = p.fs.length := by simp [ptsOf]
    clear hr h0
    refine ds_keep (SubA.cons (k := 3) rfl (SubA.cons (k := 4) rfl (SubA.cons (k := 6) rfl (SubA.nil _)))) (SubA.cons (k := 1) rfl (SubA.cons (k := 2) rfl (SubA.nil _))) ?_
    refine ds_frzP 1 (fs := picF p) rfl ?_
    refine ds_frzP 2 (fs := [.sl 2 l.length (l.flatMap ptF), .c (.int .i64 l.length), .c (.int .i64 0)]) rfl ?_
    refine goD ?_; intros
    refine dw_cf rfl rfl (d_rppoints (validPic_v hv) oM) ?_
    rintro _ rfl
    refine goD ?_; intros
    refine ds_loop (fun m E S nk => ∃ (i : Nat) (D : List Pt2), i + m = p.fs.length /\ D = (partsP p l i).flatten /\ E = [(3, .bool true), (4, .one (.fptr (picF p))), (6, .one (.fptr [.sl 2 l.length (l.flatMap ptF), .c (.int .i64 l.length), .c (.int .i64 0)])), (7, ptssD (ptsOf p)), (8, .one (.own 0 0 (2 * i) 1)), (9, .one (.own 1 0 D.length 2)), (10, .int i)] /\ S = [(0, .data (((partsP p l i).map sortedP).map ptsF)), (1, .data (D.flatMap ptF))] /\ nk = 2)
     ⟨p.fs.length, _, _, _, [(0, 3), (1, 4)], ?wk, 0, [], oM, rfl, rfl, rfl, rfl⟩ ?_
    case wk => exact ⟨(by repeat (first|exact trivial|refine ⟨by first|rfl|exact cgI oM oM, rfl, ?_⟩)), ⟨rfl, rfl, rfl, rfl, rfl, rfl, trivial⟩, rfl, rfl⟩
    rintro m E S nk ⟨i, D, hi, hD, rfl, rfl, rfl⟩
    have hDl : D.length <= 268 * i := by rw [hD]; exact partsP_sum hv hFe l i
    have hDf := ptF_len D
    have hPl : (((partsP p l i).map sortedP).map ptsF).length = (2 * i) * 1 := by rw [List.length_map, List.length_map, partsP_len, Nat.mul_one]
    refine goD ?_; intros
    refine ds_if rfl (fun hi2 => ?_) (fun hi2 => ?_)
    ·have hi2 : i < p.fs.length := by have := of_decide_eq_true hi2; omega
     obtain ⟨q, hq⟩ : ∃ r, l[i]? = some r := ⟨_, List.getElem?_eq_getElem oM⟩
     have e1 := ptsF_at (pAt_of (p := p) (i := i) oM)
     have e2 := ptF_at hq
     have hqs := hls q (List.mem_of_getElem? hq)
     have hll := lblP_len i q
     have hal := pAt_few hv hFe i
     have hns : ((partsP p l (i + 1)).map sortedP).map ptsF = ((partsP p l i).map sortedP).map ptsF ++ [ptsF (pAt p i), ptsF (sortedP (lblP i q))] := by
      rw [partsP_succ, at0_of hq, List.map_append, List.map_append]
      simp only [List.map_cons, List.map_nil, sortedP_id (pAt_rows hv i)]
     have hnf : (partsP p l (i + 1)).flatten = D ++ pAt p i ++ lblP i q := by rw [partsP_succ, at0_of hq, hD]; simp
     generalize pAt p i = a at *
     generalize ((partsP p l i).map sortedP).map ptsF = R at *
     refine goD ?_; intros
     refine dw_cf rfl rfl (d_rlpoints (i := i) (q := q) oM hqs) ?_
     rintro _ rfl
     refine goD ?_; intros
     refine dw_cf rfl rfl (d_sorted oM) ?_
     rintro _ rfl
     refine goD ?_; intros
     refine dw_app (m := 2) (q := [ptsF a, ptsF (sortedP (lblP i q))]) rfl rfl rfl (subL_all _ hPl) ⟨rfl, rfl, _, rfl, rfl⟩ oM oM (by decide) rfl ?_
     refine goD ?_; intros
     refine dw_app (m := a.length) (q := a.flatMap ptF) rfl rfl rfl (subL_all _ hDf) ⟨rfl, rfl, rfl⟩ oM oM (by decide) rfl ?_
     rw [<- List.flatMap_append, <- List.length_append]
     have hDf2 := ptF_len (D ++ a)
     have hDl2 : (D ++ a).length <= 5000 := by rw [List.length_append]; omega
     refine goD ?_; intros
     refine dw_cf rfl rfl (d_rlpoints (i := i) (q := q) oM hqs) ?_
     rintro _ rfl
     refine goD ?_; intros
     refine dw_app (m := (lblP i q).length) (q := (lblP i q).flatMap ptF) rfl rfl rfl (subL_all _ hDf2) ⟨rfl, rfl, rfl⟩ oM oM (by decide) rfl ?_
     rw [<- List.flatMap_append, <- List.length_append]
     refine goD ?_; intros
     refine ⟨m - 1, oM, _, _, _, [(0, 3), (1, 5)], ?wk2, i + 1, D ++ a ++ lblP i q, oM, hnf.symm, rfl, rfl, rfl⟩
     case wk2 => exact ⟨(by repeat (first|exact trivial|refine ⟨by first|rfl|exact cgI oM oM, rfl, ?_⟩)), ⟨congrArg (fun z => some (Bk.data z)) hns.symm, rfl, rfl, rfl, rfl, rfl, trivial⟩, rfl, rfl⟩
    ·have hi2 : i = p.fs.length := by have := of_decide_eq_false hi2; omega
     subst hi2
     have hDs : Smalls D := by rw [hD]; exact partsP_small hv hls (by omega)
     have hlP : ((partsP p l p.fs.length).map sortedP).length = 2 * p.fs.length := by rw [List.length_map, partsP_len]
     have hwant := fun {c} (hc : ClS p.gap (sortedP D) c) => parts_want hv hleg hlen hg1 hg2 (c := c) (by rw [<- hD]; exact hc)
     have hwant2 : ∀ {c : List (List Pt2)}, ClS p.gap (sortedP D) c -> c.length = 2 * p.fs.length /\ ∀ a ∈ (partsP p l p.fs.length).map sortedP, a ∈ c := fun hc => ⟨(hwant hc).1, fun a ha => by
      obtain ⟨b, hb, rfl⟩ := List.mem_map.1 ha
      exact (hwant hc).2 b hb⟩
     have hPs : ∀ a ∈ (partsP p l p.fs.length).map sortedP, a.length < 1000000 := fun a ha => by
      obtain ⟨b, hb, rfl⟩ := List.mem_map.1 ha
      have h1 := sub_len (sortedP_rows b).nodup (fun x hx => sortedP_mem.1 hx)
      obtain ⟨j, hj, rfl|rfl⟩ := partsP_mem.1 hb
      ·have := pAt_few hv hFe j; omega
      ·have := lblP_len j (at0 l j); omega
     clear hwant hD
     generalize (partsP p l p.fs.length).map sortedP = P at *
     refine ds_exit ?_
     refine ds_keep (SubA.cons (k := 3) rfl (SubA.cons (k := 4) rfl (SubA.cons (k := 8) rfl (SubA.cons (k := 9) rfl (SubA.nil _))))) (SubA.cons (k := 0) rfl (SubA.cons (k := 1) rfl (SubA.nil _))) ?_
     refine ds_frz 1 rfl okZ okZ ?_
     refine ds_frz 0 rfl okZ okZ ?_
     refine goD ?_; intros
     refine dw_cf rfl rfl (d_rclusters hDs oM) ?_
     rintro _ ⟨cs, rfl, hcs⟩
     obtain ⟨hcl, hall⟩ := hwant2 hcs
     clear hwant2 hcs
     refine goD ?_; intros
     refine ds_loop (fun m E S nk => ∃ i : Nat, i + m = P.length /\ E = [(3, .bool true), (8, .one (.f (.sl 1 (2 * p.fs.length) (P.map ptsF)))), (11, ptssD cs), (12, .int i)] /\ S = [] /\ nk = 0)
      ⟨P.length, _, _, _, [], ?wk3, 0, oM, rfl, rfl, rfl⟩ ?_
     case wk3 => exact wkA
     rintro m E S nk ⟨i, hi, rfl, rfl, rfl⟩
     refine goD ?_; intros
     refine ds_if rfl (fun hi2 => ?_) (fun hi2 => ?_)
     ·have hi2 : i < P.length := by have := of_decide_eq_true hi2; omega
      obtain ⟨a, ha⟩ : ∃ a, P[i]? = some a := ⟨_, List.getElem?_eq_getElem hi2⟩
      have e1 := ptsF_at ha
      have hal := hPs a (List.mem_of_getElem? ha)
      have hac := hall a (List.mem_of_getElem? ha)
      refine goD ?_; intros
      refine ds_loop (fun m E S nk => ∃ (k : Nat) (w : Bool), k + m = cs.length /\ w = decide (a ∈ cs.take k) /\ E = [(3, .bool true), (8, .one (.f (.sl 1 (2 * p.fs.length) (P.map ptsF)))), (11, ptssD cs), (12, .int i), (13, .bool w), (14, .int k)] /\ S = [] /\ nk = 0)
       ⟨cs.length, _, _, _, [], ?wk4, 0, false, by omega, by simp, rfl, rfl, rfl⟩ ?_
      case wk4 => exact wkA
      rintro m2 E S nk ⟨k, w, hk, hw, rfl, rfl, rfl⟩
      refine goD ?_; intros
      refine ds_if rfl (fun hk2 => ?_) (fun hk2 => ?_)
      ·have hk2 : k < cs.length := by have := of_decide_eq_true hk2; omega
       obtain ⟨c, hc⟩ : ∃ c, cs[k]? = some c := ⟨_, List.getElem?_eq_getElem hk2⟩
       have e2 := ptsF_at hc
       have htk : cs.take (k + 1) = cs.take k ++ [c] := take_snoc hc
       cases w with
       | true =>
        refine goD ?_; intros
        refine ⟨m2 - 1, oM, _, _, _, [], ?wk5, k + 1, true, oM, ?_, rfl, rfl, rfl⟩
        case wk5 => exact wkA
        rw [htk, decide_eq_true]
        exact List.mem_append_left _ (of_decide_eq_true hw.symm)
       | false =>
        refine goD ?_; intros
        refine dw_cf rfl rfl (d_same (l := a) (r := c) oM) ?_
        rintro _ rfl
        refine goD ?_; intros
        refine ⟨m2 - 1, oM, _, _, _, [], ?wk6, k + 1, decide (a = c), oM, ?_, rfl, rfl, rfl⟩
        case wk6 => exact wkA
        have hn := of_decide_eq_false hw.symm
        rw [htk]
        by_cases h : a = c
        ·rw [decide_eq_true h, decide_eq_true (by rw [h]; simp)]
        ·rw [decide_eq_false h, decide_eq_false]
         intro h2
         rcases List.mem_append.1 h2 with h2|h2
         ·exact hn h2
         ·rw [List.mem_singleton] at h2; exact h h2
      ·have hk2 : k = cs.length := by have := of_decide_eq_false hk2; omega
       subst hk2
       rw [List.take_length, decide_eq_true hac] at hw
       subst hw
       refine goD ?_; intros
       refine ds_if rfl (fun h => by cases h) (fun _ => ?_)
       refine goD ?_; intros
       refine ⟨m - 1, oM, _, _, _, [], ?wk7, i + 1, oM, rfl, rfl, rfl⟩
       case wk7 => exact wkA
     ·have b2 : ((cs.length : Int) == ((2 * p.fs.length : Nat) : Int)) = true := by rw [hcl]; simp
      refine goB ?_; intros
      exact ds_ret ⟨_, rfl, rfl, rfl⟩
def i8F (p : Pt2) : List FD := [.c (.int .i8 p.1), .c (.int .i8 p.2)]
def i8sD (l : List Pt2) : DV := .one (.f (.sl 2 l.length (l.flatMap i8F)))
def I8 (n : Int) : Prop := -128 <= n /\ n < 128
theorem i8F_at {l : List Pt2} {i : Nat} {x : Pt2} (h : l[i]? = some x) : subL (l.flatMap i8F) (i * 2) 2 = some (i8F x) := subL_flat (e := 2) (fun _ => rfl) h
theorem ptF_take {l : List Pt2} {k : Nat} (hk : k <= l.length) : subL (l.flatMap ptF) 0 (k * 2) = some ((l.take k).flatMap ptF) := by
 have h1 : l.flatMap ptF = (l.take k).flatMap ptF ++ (l.drop k).flatMap ptF := by rw [<- List.flatMap_append, List.take_append_drop]
 have h2 : ((l.take k).flatMap ptF).length = k * 2 := by rw [ptF_len, List.length_take]; omega
 rw [subL_of (by rw [ptF_len]; omega), List.drop_zero, h1, <- h2, List.take_left]
theorem subL_sub {α : Type} {D r q : List α} {o n i m : Nat} (h : subL D o n = some r) (h2 : subL r i m = some q) : subL D (o + i) m = some q := by
 obtain ⟨h1, rfl⟩ := subL_some h
 obtain ⟨h3, rfl⟩ := subL_some h2
 rw [List.length_take, List.length_drop] at h3
 rw [subL_of (by omega), List.drop_take, List.take_take, List.drop_drop]
 congr 2
 omega
theorem flat_set : ∀ (l : List Pt2) (k : Nat) (q : Pt2), setLs (l.flatMap ptF) (k * 2) (ptF q) = (l.set k q).flatMap ptF
 | [], k, q => by simp [setLs, ptF]
 | x :: l, 0, q => by simp [setLs, ptF]
 | x :: l, k + 1, q => by
  have ih := flat_set l k q
  simp only [setLs, ptF] at ih
  simp only [List.flatMap_cons, ptF, List.set_cons_succ, setLs, List.cons_append, List.nil_append]
  rw [show (k + 1) * 2 = k * 2 + 1 + 1 by omega]
  simp only [List.set_cons_succ]
  rw [ih]
theorem fr_legal {Z0 : Nat -> Prop} {lo nk : Nat} {p : Pic} {out mv : List Pt2} (hFi : Fine p) (hFe : Few p) (hv : validPic p = true) (ho : ∀ q ∈ out, Small 1000000 q) (hm : ∀ q ∈ mv, Small 1000000 q) : DPS (Par.base Tryz.prog 1 (H00 1) Z0 lo) f7.n (.seq (.ops f7r16 20) .ret) (retD (Par.base Tryz.prog 1 (H00 1) Z0 lo) f7.res fun d => d = .bool true)
  [(7, .bool true), (8, .one (.fptr (picF p))), (10, ptsD out), (12, ptsD mv)] [] nk := by
 have c1 := d_legal (p := p) (l := out) hFi hFe ho
 have c2 := d_legal (p := p) (l := mv) hFi hFe hm
 rw [hv, Bool.true_and] at c1 c2
 refine goD ?_; intros
 refine dw_cf rfl rfl c1 ?_
 rintro _ rfl
 refine goD ?_; intros
 refine dw_cf rfl rfl (d_rlegal hv ho) ?_
 rintro _ rfl
 have b1 : (legalP p out == legalP p out) = true := by simp
 have b2 : (legalP p mv == legalP p mv) = true := by simp
 refine goB ?_; intros
 refine dw_cf rfl rfl c2 ?_
 rintro _ rfl
 refine goB ?_; intros
 refine dw_cf rfl rfl (d_rlegal hv hm) ?_
 rintro _ rfl
 refine goB ?_; intros
 exact ds_ret ⟨_, rfl, rfl, rfl⟩
set_option maxHeartbeats 8000000 in
theorem d_llegal {x : Raw} {L : List Pt2} {a0 a1 a2 : Int} (hx : x.ok) (hL : ∀ q ∈ L, I8 q.1 /\ I8 q.2) (h0 : I8 a0) (h1 : I8 a1) (h2 : I8 a2) : DK 7 [rawD x, i8sD L, .agg [.f (.c (.int .i8 a0)), .f (.c (.int .i8 a1)), .f (.c (.int .i8 a2))]] fun d => d = .bool true := by
 refine dfn_ok cp7 rfl GHro fun Z0 lo => ?_
 have hFi := made3_fine x
 have hFe := made3_few hx
 have hm := d_lmade hx
 generalize made3 x = p at *
 refine goD ?_; intros
 refine dw_cf rfl rfl d_sanity ?_
 rintro _ rfl
 refine goD ?_; intros
 refine dw_cf rfl rfl hm ?_
 rintro _ rfl
 cases hv : validPic p with
 | false =>
  refine goD ?_; intros
  refine ds_if rfl (fun _ => ?_) (fun h => by cases h)
  refine goD ?_; intros
  exact ds_ret ⟨_, rfl, rfl, rfl⟩
 | true =>
  have hl8 := (validPic_fs hv).1
  refine goD ?_; intros
  refine ds_if rfl (fun h => by cases h) (fun _ => ?_)
  refine goD ?_; intros
  refine ds_frzP 2 (fs := picF p) rfl ?_
  refine ds_frzP 1 (fs := [.c (.int .i8 a0), .c (.int .i8 a1), .c (.int .i8 a2)]) rfl ?_
  refine ds_loop (fun m E S nk => ∃ (i : Nat) (out : List Pt2), i + m = min L.length 4 /\ out = L.take i /\ E = [(1, i8sD L), (5, .one (.fptr [.c (.int .i8 a0), .c (.int .i8 a1), .c (.int .i8 a2)])), (7, .bool true), (8, .one (.fptr (picF p))), (10, .one (.own 0 0 out.length 2)), (11, .int i)] /\ S = [(0, .data (out.flatMap ptF))] /\ nk = 1)
   ⟨min L.length 4, _, _, _, [(0, 3)], ?wk, 0, [], oM, rfl, rfl, rfl, rfl⟩ ?_
  case wk => exact wkA
  rintro m E S nk ⟨i, out, hi, ho, rfl, rfl, rfl⟩
  refine goD ?_; intros
  refine ds_if rfl (fun hi2 => ?_) (fun hi2 => ?_)
  ·rw [itAnd, Bool.and_eq_true] at hi2
   have g1 := of_decide_eq_true hi2.1
   have g2 := of_decide_eq_true hi2.2
   obtain ⟨q, hq⟩ : ∃ r, L[i]? = some r := ⟨_, List.getElem?_eq_getElem oM⟩
   have e1 := i8F_at hq
   have hq8 := hL q (List.mem_of_getElem? hq)
   unfold I8 at hq8
   have w1 : IntKind.i64.wrap q.1 = q.1 := dwrap oM oM
   have w2 : IntKind.i64.wrap q.2 = q.2 := dwrap oM oM
   have hol : out.length = i := by rw [ho, List.length_take]; omega
   have hfl := ptF_len out
   refine goD ?_; intros
   refine dw_app (m := 1) (q := ptF q) rfl rfl rfl (subL_all _ hfl) ⟨rfl, rfl, _, rfl, by rw [w1, w2]; rfl⟩ (by omega) (by omega) (by decide) rfl ?_
   rw [show out.flatMap ptF ++ ptF q = (out ++ [q]).flatMap ptF by simp, show out.length + 1 = (out ++ [q]).length by simp]
   refine goD ?_; intros
   refine ⟨m - 1, by omega, _, _, _, [(0, 2)], ?wk1, i + 1, out ++ [q], by omega, by rw [List.take_add_one, hq, ho]; rfl, rfl, rfl, rfl⟩
   case wk1 => exact wkA
  ·have hfl := ptF_len out
   have hos : ∀ q ∈ out, Small 1000000 q := fun q hq => by
    rw [ho] at hq
    have := hL q (List.mem_of_mem_take hq)
    unfold I8 at this
    unfold Small
    omega
   refine ds_exit ?_
   refine ds_keep (SubA.cons (k := 5) rfl (SubA.cons (k := 7) rfl (SubA.cons (k := 8) rfl (SubA.cons (k := 10) rfl (SubA.nil _))))) (SubA.cons (k := 0) rfl (SubA.nil _)) ?_
   refine ds_frz 0 rfl okZ okZ ?_
   clear ho hi hi2
   refine goD ?_; intros
   refine dw_cf rfl rfl (d_rplace hv) ?_
   rintro _ ⟨r, hr, rfl⟩
   have hrL : LegL p.gap (alls p p.fs.length) r.1 := by
    cases hr with
    | bad => exact LegL.nil _ _
    | ok hok => exact plc_leg hl8.1 hok
   have hrl : r.1.length <= 8 := by have := hrL.le; rw [alls_len] at this; omega
   have hrs : ∀ q ∈ r.1, Small 1000000 q := fun q hq => by
    obtain ⟨j, hj⟩ := List.getElem?_of_mem hq
    have h1 := hrL.ch j q hj
    have h2 := (List.getElem?_eq_some_iff.1 hj).1
    have h3 := hrL.le
    rw [alls_len] at h3
    rw [alls_at (by omega)] at h1
    exact (candP_small hv j).1 q h1
   clear hr
   unfold plcD
   obtain ⟨l, e1, e2⟩ := r
   simp only at hrL hrl hrs ⊢
   have hfm := ptF_len l
   refine goD ?_; intros
   refine dw_app (m := l.length) (q := l.flatMap ptF) (l' := []) rfl rfl rfl rfl ⟨rfl, rfl, rfl⟩ oM oM (by decide) rfl ?_
   rw [List.nil_append, Nat.zero_add]
   refine goD ?_; intros
   have w5 : IntKind.i64.wrap ((l.length : Int).tdiv 2) = ((l.length / 2 : Nat) : Int) := by
    rw [Int.tdiv_eq_ediv_of_nonneg (by omega), dwrap (by omega) (by omega)]
    omega
   rw [w5]
   refine dw_slo (o' := 0) (n' := l.length / 2) rfl rfl rfl (Nat.zero_le _) oM oM oM ?_
   have htl : (l.take (l.length / 2)).length = l.length / 2 := by rw [List.length_take]; omega
   have hcl := d_legalFor (p := p) (l := l.take (l.length / 2)) hv fun q hq => hrs q (List.mem_of_mem_take hq)
   rw [ptsD, htl, (legalF_iff hv).2 (hrL.take _)] at hcl
   refine dw_cfo (ds := [picD p, .one (.f (.sl 2 (l.length / 2) ((l.take (l.length / 2)).flatMap ptF)))]) rfl ⟨⟨_, rfl, ⟨rfl, rfl⟩, ⟨rfl, rfl⟩, ⟨rfl, rfl⟩, ⟨rfl, rfl⟩, trivial⟩, ⟨_, rfl, _, _, rfl, ptF_take oM, rfl⟩, trivial⟩ hcl (by rintro _ rfl; rfl) ?_
   rintro _ rfl
   refine goD ?_; intros
   refine ds_if rfl (fun h => by cases h) (fun _ => ?_)
   refine goD ?_; intros
   refine ds_if rfl (fun hp => ?_) (fun hp => ?_)
   ·have hp : 0 < l.length := by have := of_decide_eq_true hp; omega
    have u1 : IntKind.u8.wrap a2 = a2 % 256 := by
     unfold I8 at h2
     simp [IntKind.wrap, IntKind.signed, IntKind.bits]
    have u2 : IntKind.i64.wrap (a2 % 256) = a2 % 256 := dwrap oM oM
    obtain ⟨k, hk⟩ : ∃ k : Nat, (a2 % 256).tmod (l.length : Int) = (k : Int) := ⟨((a2 % 256).tmod (l.length : Int)).toNat, by have := Int.tmod_nonneg (l.length : Int) (show 0 <= a2 % 256 by omega); omega⟩
    have hkl : k < l.length := by have := Int.tmod_lt_of_pos (a2 % 256) (show (0 : Int) < l.length by omega); omega
    obtain ⟨q, hq⟩ : ∃ r, l[k]? = some r := ⟨_, List.getElem?_eq_getElem hkl⟩
    have e3 : subL (l.flatMap ptF) ((k : Int).toNat * 2 + 0) 1 = some [.c (.int .i64 q.1)] := subL_sub (ptF_at hq) (q := [.c (.int .i64 q.1)]) rfl
    have e4 : subL (l.flatMap ptF) ((k : Int).toNat * 2 + 1) 1 = some [.c (.int .i64 q.2)] := subL_sub (ptF_at hq) (q := [.c (.int .i64 q.2)]) rfl
    have hqs : (0 <= q.1 /\ q.1 <= 60) /\ 0 <= q.2 /\ q.2 <= 60 := by
     have g1 := hrL.ch k q hq
     have g3 := hrL.le
     rw [alls_len] at g3
     rw [alls_at (by omega)] at g1
     have g4 := (candP_mem hv).1 g1
     rw [fitsP, Bool.and_eq_true] at g4
     have g5 := g4.1
     simp only [fitsH, Bool.and_eq_true, decide_eq_true_eq] at g5
     omega
    have v1 : -4 < (IntKind.i64.wrap a0).tmod 4 /\ (IntKind.i64.wrap a0).tmod 4 < 4 := by
     unfold I8 at h0
     rw [dwrap (by omega) (by omega)]
     exact ⟨Int.neg_lt_of_neg_lt (by have := Int.lt_tmod_of_pos a0 (show (0 : Int) < 4 by omega); omega), Int.tmod_lt_of_pos _ (by omega)⟩
    have v2 : -4 < (IntKind.i64.wrap a1).tmod 4 /\ (IntKind.i64.wrap a1).tmod 4 < 4 := by
     unfold I8 at h1
     rw [dwrap (by omega) (by omega)]
     exact ⟨Int.neg_lt_of_neg_lt (by have := Int.lt_tmod_of_pos a1 (show (0 : Int) < 4 by omega); omega), Int.tmod_lt_of_pos _ (by omega)⟩
    obtain ⟨nx, hnx⟩ : ∃ nx, IntKind.i64.wrap (q.1 + (IntKind.i64.wrap a0).tmod 4) = nx := ⟨_, rfl⟩
    obtain ⟨ny, hny⟩ : ∃ ny, IntKind.i64.wrap (q.2 + (IntKind.i64.wrap a1).tmod 4) = ny := ⟨_, rfl⟩
    have hnx2 : -10 < nx /\ nx < 100 := by rw [<- hnx, dwrap (by omega) (by omega)]; omega
    have hny2 : -10 < ny /\ ny < 100 := by rw [<- hny, dwrap (by omega) (by omega)]; omega
    refine goD ?_; intros
    refine dw_rem rfl rfl oM ?_
    rw [u1, u2, hk]
    refine goD ?_; intros
    rw [hnx, hny]
    refine dw_st (k := 2) (o := k * 2) (l := [.f (.c (.int .i64 nx)), .f (.c (.int .i64 ny))]) rfl rfl rfl rfl rfl (show k * 2 + 2 <= (l.flatMap ptF).length by rw [hfm]; omega) rfl ?_
    rw [show stB (.data (l.flatMap ptF)) (k * 2) [.f (.c (.int .i64 nx)), .f (.c (.int .i64 ny))] = .data ((l.set k (nx, ny)).flatMap ptF) from congrArg Bk.data (flat_set l k (nx, ny))]
    refine dw_nil ?_
    have hsl : (l.set k (nx, ny)).length = l.length := List.length_set
    have hfs : ((l.set k (nx, ny)).flatMap ptF).length = l.length * 2 := by rw [ptF_len, hsl]
    refine ds_keep (SubA.cons (k := 7) rfl (SubA.cons (k := 8) rfl (SubA.cons (k := 10) rfl (SubA.cons (k := 12) rfl (SubA.nil _))))) (SubA.cons (k := 2) rfl (SubA.nil _)) ?_
    refine ds_frz 2 rfl okZ okZ ?_
    have hfin := fr_legal (Z0 := Z0) (lo := lo) (nk := 3) (out := out) (mv := l.set k (nx, ny)) hFi hFe hv hos fun r hr => by
     rcases List.mem_or_eq_of_mem_set hr with hr|rfl
     ·exact hrs r hr
     ·unfold Small
      simp only
      omega
    rw [ptsD, ptsD, hsl] at hfin
    exact hfin
   ·have hp : l = [] := by have := of_decide_eq_false hp; exact List.eq_nil_of_length_eq_zero oM
    refine ds_skip ?_
    refine ds_keep (SubA.cons (k := 7) rfl (SubA.cons (k := 8) rfl (SubA.cons (k := 10) rfl (SubA.cons (k := 12) rfl (SubA.nil _))))) (SubA.cons (k := 2) rfl (SubA.nil _)) ?_
    refine ds_frz 2 rfl okZ okZ ?_
    exact fr_legal hFi hFe hv hos hrs
end Go.Ae

namespace Go.Ae
open Go.Ab Go.Proofs
def pi8T : Ty := .agg (.pair (.int .i8) (.pair (.int .i8) .unit))
def pi8R (l : List (Int × Int × Unit)) : List Pt2 := l.map fun y => (y.1, y.2.1)
theorem pi8R_ok {l : List (Int × Int × Unit)} (h : Ty.okD (.slice pi8T) (show (Ty.slice pi8T).den from l)) : ∀ q ∈ pi8R l, I8 q.1 /\ I8 q.2 := fun q hq => by
 obtain ⟨y, hy, rfl⟩ := List.mem_map.1 hq
 obtain ⟨g1, g2, _⟩ := h.1 y hy
 exact ⟨wf_i8 g1, wf_i8 g2⟩
theorem pi8R_d (l : List (Int × Int × Unit)) : i8sD (pi8R l) = argD (.slice pi8T) (show (Ty.slice pi8T).den from l) := by
 have h : ∀ l : List (Int × Int × Unit), (l.map fun y => ((y.1, y.2.1) : Pt2)).flatMap i8F = List.flatMap (Ty.fd pi8T) l := by
  intro l
  induction l with
  | nil => rfl
  | cons y l ih => rw [List.map_cons, List.flatMap_cons, ih]; rfl
 show DV.one (.f (.sl 2 (l.map fun y => ((y.1, y.2.1) : Pt2)).length ((l.map fun y => ((y.1, y.2.1) : Pt2)).flatMap i8F))) = _
 rw [h l, List.length_map]
 rfl
theorem conv2 {F : DV -> DV -> Prop} {a a' b b' : DV} (e1 : a = a') (e2 : b = b') (h : F a b) : F a' b' := by
 subst e1 e2
 exact h
end Go.Ae
