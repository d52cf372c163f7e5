/- Contracts of functions of the program over the abstract semantics. -/
import Derived.Test.YtandgamnamkkhaaGreatDoorAb15
import Derived.Test.YtandgamnamkkhaaGreatDoorProg
import Derived.KernelRfl
set_option linter.unusedVariables false
set_option linter.unusedSimpArgs false
namespace Go.Ah
open Go.Ab Go.Proofs
set_option maxRecDepth 100000
theorem cp7 : cpFn Tryz.prog 7 7 = some f7 := by kernel_rfl
theorem cp10 : cpFn Tryz.prog 7 10 = some f10 := by kernel_rfl
theorem cp12 : cpFn Tryz.prog 7 12 = some f12 := by kernel_rfl
theorem cp19 : cpFn Tryz.prog 7 19 = some f19 := by kernel_rfl
theorem cp36 : cpFn Tryz.prog 7 36 = some f36 := by kernel_rfl
theorem cp37 : cpFn Tryz.prog 7 37 = some f37 := by kernel_rfl
theorem cp40 : cpFn Tryz.prog 7 40 = some f40 := by kernel_rfl
theorem cp71 : cpFn Tryz.prog 7 71 = some f71 := by kernel_rfl
theorem cp72 : cpFn Tryz.prog 7 72 = some f72 := by kernel_rfl
theorem cp100 : cpFn Tryz.prog 7 100 = some f100 := by kernel_rfl
end Go.Ah

namespace Go.Ab
section
variable {p : Par} {base rs : Nat} {Q : DEnv -> Bx -> Nat -> Prop} {r : List SOper} {W : Wt} {A : List Nat} {E : DEnv} {S : Bx} {nk : Nat} {id : Nat} {dst : Option Nat} {aid : Option Nat} {ws : List Nat} {keep : Bool}
end
end Go.Ab

namespace Go.Ab
section
variable {p : Par} {Z : Nat -> Prop} {β : Beta} {H H' : Hp} {S S0 : Bx} {nk : Nat}
end
end Go.Ab

namespace Go.Ab
section
variable {p : Par} {base rs : Nat} {Q : DEnv -> Bx -> Nat -> Prop} {r : List SOper} {W : Wt} {A : List Nat} {E : DEnv} {S : Bx} {nk : Nat} {id : Nat} {dst : Option Nat} {aid : Option Nat} {ws : List Nat} {keep : Bool}
end
end Go.Ab

namespace Go.Ab
section
variable {p : Par} {base rs : Nat} {Q : DEnv -> Bx -> Nat -> Prop} {r : List SOper} {W : Wt} {A : List Nat} {E : DEnv} {S : Bx} {nk : Nat} {id : Nat} {dst : Option Nat} {aid : Option Nat} {ws : List Nat} {keep : Bool}
end
end Go.Ab

namespace Go.Ab
section
variable {p : Par} {n : Nat} {Q : Exit -> DEnv -> Bx -> Nat -> Prop} {E : DEnv} {S : Bx} {nk : Nat}
end
section
variable {p : Par} {E : DEnv} {S : Bx} {nk : Nat}
end
section
variable {Z : Nat -> Prop} {H : Hp} {β β' : Beta} {n : Nat}
end
section
variable {p : Par} {base rs : Nat} {Q : DEnv -> Bx -> Nat -> Prop} {r : List SOper} {W : Wt} {A : List Nat} {E : DEnv} {S : Bx} {nk : Nat} {id : Nat} {dst : Option Nat} {aid : Option Nat} {ws : List Nat} {keep : Bool}
end
end Go.Ab

namespace Go.Ab
section
variable {Z Z' : Nat -> Prop} {H H' : Hp} {β β' : Beta}
end
section
variable {p : Par} {base rs : Nat} {Q : DEnv -> Bx -> Nat -> Prop} {r : List SOper} {W : Wt} {A : List Nat} {E : DEnv} {S : Bx} {nk : Nat} {id : Nat} {dst : Option Nat} {aid : Option Nat} {ws : List Nat} {keep : Bool}
end
end Go.Ab

namespace Go.Ab
section
variable {Z : Nat -> Prop} {H H' : Hp} {β β' : Beta} {kb : Nat}
end
end Go.Ab

namespace Go.Ab
section
variable {p : Par} {base rs : Nat} {Q : DEnv -> Bx -> Nat -> Prop} {r : List SOper} {W : Wt} {A : List Nat} {E : DEnv} {S : Bx} {nk : Nat} {id : Nat} {dst : Option Nat} {aid : Option Nat} {ws : List Nat} {keep : Bool}
end
end Go.Ab

namespace Go.Ab
section
variable {p : Par} {base rs n : Nat} {Q : DEnv -> Bx -> Nat -> Prop} {r : List SOper} {W : Wt} {A : List Nat} {E : DEnv} {S : Bx} {nk : Nat} {id : Nat} {dst : Option Nat} {aid : Option Nat} {ws : List Nat} {keep : Bool}
end
end Go.Ab

namespace Go.Ab
section
variable {Z Z' : Nat -> Prop} {H H' : Hp} {β β' : Beta}
end
section
variable {p : Par} {base rs : Nat} {Q : DEnv -> Bx -> Nat -> Prop} {r : List SOper} {W : Wt} {A : List Nat} {E : DEnv} {S : Bx} {nk : Nat} {id : Nat} {dst : Option Nat} {aid : Option Nat} {ws : List Nat} {keep : Bool}
end
end Go.Ab

namespace Go.Ab
section
variable {p : Par} {base rs : Nat} {Q : DEnv -> Bx -> Nat -> Prop} {r : List SOper} {W : Wt} {A : List Nat} {E : DEnv} {S : Bx} {nk : Nat} {id : Nat} {dst : Option Nat} {aid : Option Nat} {ws : List Nat} {keep : Bool}
end
end Go.Ab

namespace Go.Ab
section
variable {Z Z' : Nat -> Prop} {β β' : Beta} {H H' : Hp} {E : DEnv} {F : T V}
end
section
variable {p : Par} {Z : Nat -> Prop} {β : Beta} {H : Hp} {S : Bx} {nk : Nat}
end
section
variable {p : Par} {base rs : Nat} {Q : DEnv -> Bx -> Nat -> Prop} {r : List SOper} {W : Wt} {A : List Nat} {E : DEnv} {S : Bx} {nk : Nat} {id : Nat} {dst : Option Nat} {aid : Option Nat} {ws : List Nat} {keep : Bool}
end
section
variable {p : Par} {base rs : Nat} {Q : DEnv -> Bx -> Nat -> Prop} {r : List SOper} {W : Wt} {A : List Nat} {E : DEnv} {S : Bx} {nk : Nat} {id : Nat} {dst : Option Nat} {aid : Option Nat} {ws : List Nat} {keep : Bool}
end
section
variable {p : Par} {n : Nat} {Q : Exit -> DEnv -> Bx -> Nat -> Prop} {E : DEnv} {S : Bx} {nk : Nat}
end
end Go.Ab

namespace Go.Ab
section
variable {p : Par} {base rs : Nat} {Q : DEnv -> Bx -> Nat -> Prop} {r : List SOper} {W : Wt} {A : List Nat} {E : DEnv} {S : Bx} {nk : Nat} {id : Nat} {dst : Option Nat} {aid : Option Nat} {ws : List Nat} {keep : Bool}
end
end Go.Ab

namespace Go.Ab
section
variable {p : Par} {base rs : Nat} {Q : DEnv -> Bx -> Nat -> Prop} {r : List SOper} {W : Wt} {A : List Nat} {E : DEnv} {S : Bx} {nk : Nat} {id : Nat} {dst : Option Nat} {aid : Option Nat} {ws : List Nat} {keep : Bool}
end
end Go.Ab

namespace Go.Ab
section
variable {P : Program} {G : Nat} {H : Hp}
end
end Go.Ab

namespace Go.Ab
section
variable {p : Par} {base rs : Nat} {Q : DEnv -> Bx -> Nat -> Prop} {r : List SOper} {W : Wt} {A : List Nat} {E : DEnv} {S : Bx} {nk : Nat} {id : Nat} {dst : Option Nat} {aid : Option Nat} {ws : List Nat} {keep : Bool}
end
end Go.Ab

namespace Go.Ab
section
variable {P : Program} {G base : Nat} {QP : Hp -> Prop} {Q : T V -> Hp -> Prop}
end
section
variable {p : Par} {base rs : Nat} {Q : DEnv -> Bx -> Nat -> Prop} {r : List SOper} {W : Wt} {A : List Nat} {E : DEnv} {S : Bx} {nk : Nat}
end
end Go.Ab

namespace Go.Ah
open Go.Ab Go.Proofs
set_option linter.unusedSimpArgs false
theorem mix : Tryz.prog.follows .mixedOrders = true := by kernel_rfl
def digs : B := .row 8 [.int .u8 1, .int .u8 3, .int .u8 9, .int .u8 25, .int .u8 17, .int .u8 11, .int .u8 27, .int .u8 19] .lf false
def H00 (_ : Nat) : Hp := ⟨T.lf.set 4 (some digs), 7⟩
structure Hid (Q : Prop) : Prop where
 get : Q
theorem goD {P Q : Prop} (k : Q) (h : Hid Q -> P := by intro goH; (repeat (first|refine dw_want rfl rfl ?_|refine dw_skip rfl rfl ?_|refine dw_skipU rfl ?_|refine dw_pickT rfl rfl ?_|refine dw_pickF rfl rfl ?_|refine dw_pick rfl dgA dgA ?_|refine dw_max rfl rfl ?_|refine dw_min rfl rfl ?_|refine dw_p rfl ?_|refine dw_l rfl ?_|refine dw_lk rfl ?_|refine dw_pg rfl dgA ?_|refine dw_lg rfl dgA ?_|refine dw_io1 rfl rfl oM oM ?_|refine dw_io0 rfl rfl oM oM ?_|refine dw_it0 rfl rfl oM oM ?_|refine dw_if0 rfl rfl oM (by decide) aM ?_|refine dw_if rfl rfl oM (by decide) aM ?_|refine dw_l (dload_data rfl rfl aM rfl) ?_|refine dw_lk (dload_data rfl rfl aM rfl) ?_|refine dw_l (dload_tree rfl rfl aM) ?_|refine dw_lk (dload_tree rfl rfl aM) ?_|refine dw_l (dload_tptr rfl rfl aM aM) ?_|refine dw_lk (dload_tptr rfl rfl aM aM) ?_|refine dw_a rfl ?_|refine dw_ai rfl rfl rfl ?_|refine dw_st rfl rfl rfl rfl rfl (Nat.le_of_ble_eq_true rfl) rfl ?_|refine dw_nil ?_|refine ds_seq ?_|refine ds_ops mix (fun base => ?_)|refine ds_skip ?_|refine ds_block ?_|refine ds_exit ?_)); first|exact goH.get|(revert base; exact goH.get)) : P := h ⟨k⟩
theorem GHro : ∀ b bk, (H00 1).get b = some bk -> bk.ro = some bk := by
 intro b bk h
 have e : (H00 1).get b = if b = 4 then some digs else none := by
  show (T.lf.set 4 (some digs)).get b = _
  rw [T.get_set, T.get_lf]
 rw [e] at h
 split at h
 ·rw [<- Option.some.inj h]; rfl
 ·cases h
abbrev DK (f : FuncId) (ds : List DV) (R : DV -> Prop) : Prop := DCalls Tryz.prog 7 (H00 1) f ds R
noncomputable def tabS (f : FuncId) : Option SFn := if isFn Tryz.prog f then cpFn Tryz.prog 7 f else none
noncomputable def tabE (f : FuncId) : Option SDef := if isFn Tryz.prog f then cpDef Tryz.prog 7 f else none
def HS : Hp := ⟨.lf, 7⟩
theorem tabS_ok : TabOk Tryz.prog 7 tabS := fun f sf h => by
 unfold tabS at h
 split at h
 ·rename_i hf; exact ⟨h, hf⟩
 ·cases h
theorem tabE_ok : DefOk Tryz.prog 7 tabE := fun f sf h => by
 unfold tabE at h
 split at h
 ·rename_i hf; exact ⟨h, hf⟩
 ·cases h
theorem dk_ev {f : FuncId} {ds : List DV} {vs : List V} {c : C} {fuel : Nat} (hex : All2 (fun d v => exV d = some v) ds vs) (hcl : vs.all V.closed = true) (hc : c.closed = true) (h : evVal tabS tabE fuel f vs HS = some (.one c)) : DK f ds fun d => d = .one (.f (.c c)) := by
 have hno : ∀ b bk, HS.get b = some bk -> False := fun b bk h => by
  have : HS.get b = none := T.get_lf b
  rw [this] at h; cases h
 exact DCalls.of_pure hex hc fun H hH => (ACalls.sub (H := H) (evVal_ok mix tabS_ok tabE_ok h) hcl (by decide) (fun b bk h => (hno b bk h).elim) (fun b bk h => (hno b bk h).elim) (fun v _ h => by rw [h]; exact hc)).mono fun v H' ⟨⟨_, h⟩, e⟩ => ⟨h, e⟩
def clsN (n : Nat) : Int := if 97 <= n % 128 /\ n % 128 <= 122 then 1 else if 65 <= n % 128 /\ n % 128 <= 90 then 2 else if 48 <= n % 128 /\ n % 128 <= 57 then 3 else if n % 128 = 32 then 4 else 5
def chrN (n : Nat) : Bool := decide (32 <= n % 128) && decide (n % 128 <= 126)
theorem all72 : ((List.range 256).all fun n => match evVal tabS tabE 100 72 [.one (.int .u8 n)] HS with
 | some (.one (.int .i64 c)) => decide (c = clsN n)
 | _ => false) = true := by kernel_rfl
theorem all100 : ((List.range 256).all fun n => match evVal tabS tabE 100 100 [.one (.int .u8 n)] HS with
 | some (.one (.bool c)) => c == chrN n
 | _ => false) = true := by kernel_rfl
theorem d_class {n : Nat} (h : n < 256) : DK 72 [.one (.f (.c (.int .u8 n)))] fun d => d = .int (clsN n) := by
 have h1 := List.all_eq_true.1 all72 n (List.mem_range.2 h)
 split at h1
 ·rename_i c hc
  have := of_decide_eq_true h1
  subst this
  exact dk_ev (vs := [.one (.int .u8 n)]) ⟨rfl, trivial⟩ rfl rfl hc
 ·cases h1
theorem d_chr {n : Nat} (h : n < 256) : DK 100 [.one (.f (.c (.int .u8 n)))] fun d => d = .bool (chrN n) := by
 have h1 := List.all_eq_true.1 all100 n (List.mem_range.2 h)
 split at h1
 ·rename_i c hc
  have : c = chrN n := by simpa using h1
  subst this
  exact dk_ev (vs := [.one (.int .u8 n)]) ⟨rfl, trivial⟩ rfl rfl hc
 ·cases h1
end Go.Ah

namespace Go.Ah
open Go.Ab Go.Proofs
set_option linter.unusedSimpArgs false
abbrev strD (s : ByteArray) : DV := .one (.f (.c (.str s)))
def bt (s : ByteArray) (i : Nat) : Nat := (s.data.toList.getD i 0).toNat
theorem bt_lt (s : ByteArray) (i : Nat) : bt s i < 256 := UInt8.toNat_lt _
theorem str_at {s : ByteArray} {i : Nat} (h : i < s.size) : s[i]? = some (s.data.toList.getD i 0) := by
 have h' : i < s.data.toList.length := by simpa using h
 rw [List.getD_eq_getElem?_getD, List.getElem?_eq_getElem h']
 simp only [Option.getD_some]
 rw [getElem?_pos s i h]
 rfl
section
variable {p : Par} {base rs : Nat} {Q : DEnv -> Bx -> Nat -> Prop} {r : List SOper} {W : Wt} {A : List Nat} {E : DEnv} {S : Bx} {nk : Nat} {id : Nat} {dst : Option Nat} {aid : Option Nat} {ws : List Nat} {keep : Bool}
theorem dw_sindex {x i : Opd} {s : ByteArray} {k : IntKind} {j : Nat} (hx : ro E x = some (strD s)) (hi : ro E i = some (.one (.f (.c (.int k j))))) (hj : j < s.size) (h : DPW p base rs Q r W A (setD E dst (.one (.f (.c (.int .u8 (bt s j)))))) S nk) : DPW p base rs Q (⟨id, dst, .p (.sindex x i), none, aid, ws, keep⟩ :: r) W A E S nk := by
 refine dw_pv (fun {Z β H F} hE => ⟨.one (.int .u8 (bt s j)), ?_, exact_ok rfl⟩) h
 simp only [aPure, int_of hE hx, int_of hE hi]
 rw [if_pos (by omega), show ((j : Int).toNat) = j by omega, str_at hj]
 rfl
end
def textB (s : ByteArray) : Bool := (List.range s.size).all fun i => chrN (bt s i)
theorem textB_of {s : ByteArray} (h : ∀ j, j < s.size -> chrN (bt s j) = true) : textB s = true := List.all_eq_true.2 fun i hi => h i (List.mem_range.1 hi)
theorem textB_no {s : ByteArray} {j : Nat} (hj : j < s.size) (h : chrN (bt s j) = false) : textB s = false := by
 cases hb : textB s with
 | false => rfl
 | true => have := List.all_eq_true.1 hb j (List.mem_range.2 hj); rw [h] at this; cases this
theorem d_text {s : ByteArray} (hs : s.size < 1000000) : DK 71 [strD s] fun d => ∃ n : Int, d = .tup [.int n, .int (if textB s then 0 else 60)] := by
 refine dfn_ok cp71 rfl GHro fun Z0 lo => ?_
 refine goD ?_; intros
 refine ds_loop (fun m E S nk => ∃ i : Nat, i + m = s.size /\ (∀ j, j < i -> chrN (bt s j) = true) /\ E = [(0, strD s), (6, .int s.size), (7, .int i)] /\ S = [] /\ nk = 0)
  ⟨s.size, _, _, _, [], ?wk, 0, oM, fun j hj => oM, rfl, rfl, rfl⟩ ?_
 case wk => exact wkA
 rintro m E S nk ⟨i, hi, hok, rfl, rfl, rfl⟩
 refine goD ?_; intros
 refine ds_if rfl (fun hi2 => ?_) (fun hi2 => ?_)
 ·have hi2 : i < s.size := by have := of_decide_eq_true hi2; omega
  refine goD ?_; intros
  refine dw_sindex rfl rfl hi2 ?_
  refine goD ?_; intros
  refine dw_cf rfl rfl (d_chr (bt_lt s i)) ?_
  rintro _ rfl
  refine goD ?_; intros
  refine ds_if rfl (fun hb => ?_) (fun hb => ?_)
  ·have hb : chrN (bt s i) = false := by simpa using hb
   refine goD ?_; intros
   exact ds_ret ⟨_, rfl, rfl, _, by rw [textB_no hi2 hb]; rfl⟩
  ·have hb : chrN (bt s i) = true := by simpa using hb
   refine goD ?_; intros
   refine ⟨m - 1, oM, _, _, _, [], ?wk, i + 1, oM, fun j hj => ?_, rfl, rfl, rfl⟩
   case wk => exact wkA
   by_cases e : j = i
   ·rw [e]; exact hb
   ·exact hok j oM
 ·have hi2 : i = s.size := by have := of_decide_eq_false hi2; omega
  subst hi2
  refine goD ?_; intros
  exact ds_ret ⟨_, rfl, rfl, _, by rw [textB_of hok]; rfl⟩
def spc (s : ByteArray) (i : Nat) : Bool := decide (clsN (bt s i) = 4)
def lst (s : ByteArray) : Nat -> Int
 | 0 => 0
 | i + 1 => clsN (bt s i)
def gapAt (s : ByteArray) (i : Nat) : Bool := spc s i && (decide (lst s i = 0) || decide (lst s i = 4))
def cleanB (s : ByteArray) : Bool := decide (1 <= s.size) && decide (s.size <= 400) && textB s && ((List.range s.size).all fun i => !gapAt s i) && !decide (lst s s.size = 4)
theorem clean_len {s : ByteArray} (h : cleanB s = true) : 1 <= s.size /\ s.size <= 400 := by
 simp only [cleanB, Bool.and_eq_true, decide_eq_true_eq] at h
 exact h.1.1.1
theorem cls_cases {n : Nat} {c : Int} (h : clsN n = c) : c = 1 \/ c = 2 \/ c = 3 \/ c = 4 \/ c = 5 := by
 subst h
 unfold clsN
 split
 ·simp
 ·split
  ·simp
  ·split
   ·simp
   ·split <;> simp
theorem lst_cases {s : ByteArray} {i : Nat} {c : Int} (h : lst s i = c) : c = 0 \/ c = 1 \/ c = 2 \/ c = 3 \/ c = 4 \/ c = 5 := by
 cases i with
 | zero => exact .inl h.symm
 | succ i => exact .inr (cls_cases h)
theorem clean_gap {s : ByteArray} {i : Nat} (hi : i < s.size) (hb : gapAt s i = true) : cleanB s = false := by
 have : ((List.range s.size).all fun i => !gapAt s i) = false := by
  rw [Bool.eq_false_iff]
  intro h
  have := List.all_eq_true.1 h i (List.mem_range.2 hi)
  rw [hb] at this
  cases this
 simp [cleanB, this]
set_option maxHeartbeats 4000000 in
theorem d_clean {s : ByteArray} : DK 36 [strD s] fun d => d = .bool (cleanB s) := by
 refine dfn_ok cp36 rfl GHro fun Z0 lo => ?_
 refine goD ?_; intros
 refine ds_if rfl (fun hl => ?_) (fun hl => ?_)
 ·have hl : ¬ (1 <= s.size /\ s.size <= 400) := by
   split at hl
   ·have := of_decide_eq_true (by assumption : decide ((s.size : Int) < 1) = true); omega
   ·have := of_decide_eq_true hl; omega
  refine goD ?_; intros
  exact ds_ret ⟨_, rfl, rfl, by rw [show cleanB s = false from by cases hb : cleanB s with|false => rfl|true => exact absurd (clean_len hb) hl]⟩
 ·have hl : 1 <= s.size /\ s.size <= 400 := by
   split at hl
   ·cases hl
   ·rename_i h1
    have h1 : ¬ ((s.size : Int) < 1) := by simpa using h1
    have := of_decide_eq_false hl
    omega
  refine goD ?_; intros
  refine dw_cf rfl rfl (d_text oM) ?_
  rintro _ ⟨n, rfl⟩
  refine goD ?_; intros
  refine ds_if rfl (fun ht => ?_) (fun ht => ?_)
  ·have ht : textB s = false := by
    cases hb : textB s with
    | false => rfl
    | true => rw [hb] at ht; cases ht
   refine goD ?_; intros
   exact ds_ret ⟨_, rfl, rfl, by simp [cleanB, ht]⟩
  ·have ht : textB s = true := by
    cases hb : textB s with
    | false => rw [hb] at ht; cases ht
    | true => rfl
   refine goD ?_; intros
   refine ds_loop (fun m E S nk => ∃ i : Nat, i + m = s.size /\ (∀ j, j < i -> gapAt s j = false) /\ E = [(0, strD s), (5, .int (lst s i)), (24, .int s.size), (25, .int i)] /\ S = [] /\ nk = 0)
    ⟨s.size, _, _, _, [], ?wk, 0, oM, fun j hj => oM, rfl, rfl, rfl⟩ ?_
   case wk => exact wkA
   rintro m E S nk ⟨i, hi, hok, rfl, rfl, rfl⟩
   refine goD ?_; intros
   refine ds_if rfl (fun hi2 => ?_) (fun hi2 => ?_)
   ·have hi2 : i < s.size := by have := of_decide_eq_true hi2; omega
    refine goD ?_; intros
    refine dw_sindex rfl rfl hi2 ?_
    refine goD ?_; intros
    refine dw_cf rfl rfl (d_class (bt_lt s i)) ?_
    rintro _ rfl
    generalize hc : clsN (bt s i) = c
    generalize hll : lst s i = l
    have hc' := cls_cases hc
    have hl' := lst_cases hll
    by_cases h4 : c = 4
    ·subst h4
     have hgap : ∀ b, (decide (l = 0) || decide (l = 4)) = b -> gapAt s i = b := fun b hb => by unfold gapAt spc; rw [hc, hll]; simpa using hb
     rcases hl' with rfl|rfl|rfl|rfl|rfl|rfl
     ·refine goD ?_; intros
      refine ds_if rfl (fun _ => ?_) (fun h => by cases h)
      refine goD ?_; intros
      exact ds_ret ⟨_, rfl, rfl, by rw [clean_gap hi2 (hgap true rfl)]⟩
     rotate_left 3
     ·refine goD ?_; intros
      refine ds_if rfl (fun _ => ?_) (fun h => by cases h)
      refine goD ?_; intros
      exact ds_ret ⟨_, rfl, rfl, by rw [clean_gap hi2 (hgap true rfl)]⟩
     all_goals
      have hb := hgap false rfl
      have hls : lst s (i + 1) = 4 := hc
      refine goD ?_; intros
      refine ds_if rfl (fun h => by cases h) (fun _ => ?_)
      refine goD ?_; intros
      refine ⟨m - 1, oM, _, _, _, [], ?wk, i + 1, oM, fun j hj => ?_, rfl, rfl, rfl⟩
      case wk => rw [hls]; exact wkA
      by_cases e : j = i
      ·rw [e]; exact hb
      ·exact hok j oM
    ·have hb : gapAt s i = false := by unfold gapAt spc; rw [hc]; simp [h4]
     have hls : lst s (i + 1) = c := hc
     rcases hc' with rfl|rfl|rfl|rfl|rfl
     all_goals try exact absurd rfl h4
     all_goals
      refine goD ?_; intros
      refine ds_if rfl (fun h => by cases h) (fun _ => ?_)
      refine goD ?_; intros
      refine ⟨m - 1, oM, _, _, _, [], ?wk, i + 1, oM, fun j hj => ?_, rfl, rfl, rfl⟩
      case wk => rw [hls]; exact wkA
      by_cases e : j = i
      ·rw [e]; exact hb
      ·exact hok j oM
   ·have hi2 : i = s.size := by have := of_decide_eq_false hi2; omega
    subst hi2
    refine goD ?_; intros
    exact ds_ret ⟨_, rfl, rfl, by
     have : ((List.range s.size).all fun i => !gapAt s i) = true := List.all_eq_true.2 fun j hj => by rw [hok j (List.mem_range.1 hj)]; rfl
     simp [cleanB, this, ht, hl.1, hl.2, bne]
     rfl⟩
end Go.Ah

namespace Go.Ah
open Go.Ab Go.Proofs
set_option maxRecDepth 100000
end Go.Ah

namespace Go.Ah
open Go.Ab Go.Proofs
set_option linter.unusedSimpArgs false
theorem subL_flat {α : Type} {f : α -> List FD} {e : Nat} (hf : ∀ x, (f x).length = e) : ∀ {l : List α} {i : Nat} {x : α}, l[i]? = some x -> subL (l.flatMap f) (i * e) e = some (f x)
 | [], i, x, h => by simp at h
 | y :: l, 0, x, h => by
  simp at h; subst h
  have := hf y
  rw [Nat.zero_mul, subL_of (by simp; omega)]
  simp [List.take_append_of_le_length, <- this]
 | y :: l, i + 1, x, h => by
  have ih := subL_flat hf (l := l) (i := i) (x := x) (by simpa using h)
  have hy := hf y
  obtain ⟨h1, h2⟩ := subL_some ih
  rw [List.flatMap_cons, Nat.add_mul, Nat.one_mul, subL_of (by rw [List.length_append]; omega)]
  rw [show i * e + e = (f y).length + i * e by omega, <- List.drop_drop, List.drop_append_of_le_length (Nat.le_refl _), List.drop_length, List.nil_append, <- h2]
theorem subL_all {α : Type} (l : List α) {n : Nat} (h : l.length = n) : subL l 0 n = some l := by
 subst h
 rw [subL_of (by omega)]
 simp
structure Blk where
 kind : Int
 level : Int
 text : ByteArray
 rows : List (List ByteArray)
 f : List (Int × Int)
 w : Int
 h : Int
 gap : Int
 nf : Nat
 ff : List FD
 page : Int
abbrev FD.int (n : Int) : FD := .c (.int .i64 n)
def rowD (r : List ByteArray) : FD := .sl 1 r.length (r.map fun s => .c (.str s))
def rowsD (l : List (List ByteArray)) : FD := .sl 1 l.length (l.map rowD)
def nodeF (n : Int × Int) : List FD := [FD.int n.1, FD.int n.2]
def formF (l : List (Int × Int)) : FD := .sl 2 l.length (l.flatMap nodeF)
def blkF (b : Blk) : List FD := [FD.int b.kind, FD.int b.level, .c (.str b.text), rowsD b.rows, formF b.f, FD.int b.w, FD.int b.h, FD.int b.gap, .sl 3 b.nf b.ff, FD.int b.page]
def blkD (b : Blk) : DV := .agg ((blkF b).map .f)
def bookD (l : List Blk) : DV := .one (.f (.sl 10 l.length (l.flatMap blkF)))
theorem ite_and : ∀ x y : Bool, (if x = true then y else false) = (x && y) := by decide
def emptyB (b : Blk) : Bool := b.level == 0 && b.text.data.toList == [] && (b.rows.length : Int) == 0 && (b.f.length : Int) == 0 && b.page == 0 && b.w == 0 && b.h == 0 && b.gap == 0 && (b.nf : Int) == 0
set_option maxHeartbeats 4000000 in
theorem d_empty {b : Blk} : DK 40 [blkD b] fun d => d = .bool (emptyB b) := by
 refine dfn_ok cp40 rfl GHro fun Z0 lo => ?_
 refine goD ?_; intros
 refine ds_ret ⟨_, rfl, rfl, congrArg (fun z => DV.bool z) ?_⟩
 unfold emptyB
 simp only [ite_and, Bool.false_eq_true, if_false]
def tabB (l : List (List ByteArray)) : Bool := decide (1 <= l.length) && decide (l.length <= 6) && decide (1 <= (l.getD 0 []).length) && decide ((l.getD 0 []).length <= 4) && l.all fun r => decide (r.length = (l.getD 0 []).length) && r.all fun s => decide (s.size <= 40) && cleanB s
theorem rows_flat (l : List (List ByteArray)) : l.flatMap (fun r => [rowD r]) = l.map rowD := by
 induction l with
 | nil => rfl
 | cons a l ih => rw [List.flatMap_cons, ih]; rfl
theorem rows_at {l : List (List ByteArray)} {i : Nat} {r : List ByteArray} (h : l[i]? = some r) : subL (l.map rowD) (i * 1) 1 = some [rowD r] := by
 have := subL_flat (f := fun r => [rowD r]) (e := 1) (fun _ => rfl) h
 rwa [rows_flat] at this
theorem strs_flat (l : List ByteArray) : l.flatMap (fun s => [FD.c (.str s)]) = l.map fun s => .c (.str s) := by
 induction l with
 | nil => rfl
 | cons a l ih => rw [List.flatMap_cons, ih]; rfl
theorem strs_at {l : List ByteArray} {i : Nat} {s : ByteArray} (h : l[i]? = some s) : subL (l.map fun s => FD.c (.str s)) (i * 1) 1 = some [.c (.str s)] := by
 have := subL_flat (f := fun s => [FD.c (.str s)]) (e := 1) (fun _ => rfl) h
 rwa [strs_flat] at this
def rowOk (m : Nat) (r : List ByteArray) : Bool := decide (r.length = m) && r.all fun s => decide (s.size <= 40) && cleanB s
theorem tab_no {l : List (List ByteArray)} {i : Nat} {r : List ByteArray} (h : l[i]? = some r) (hr : rowOk (l.getD 0 []).length r = false) : tabB l = false := by
 have : (l.all fun r => decide (r.length = (l.getD 0 []).length) && r.all fun s => decide (s.size <= 40) && cleanB s) = false := by
  rw [Bool.eq_false_iff]
  intro hh
  have := List.all_eq_true.1 hh r (List.mem_of_getElem? h)
  rw [show (decide (r.length = (l.getD 0 []).length) && r.all fun s => decide (s.size <= 40) && cleanB s) = rowOk (l.getD 0 []).length r from rfl, hr] at this
  cases this
 simp only [tabB, this, Bool.and_false]
theorem row_no {m : Nat} {r : List ByteArray} {k : Nat} {s : ByteArray} (h : r[k]? = some s) (hs : (decide (s.size <= 40) && cleanB s) = false) : rowOk m r = false := by
 have : (r.all fun s => decide (s.size <= 40) && cleanB s) = false := by
  rw [Bool.eq_false_iff]
  intro hh
  have := List.all_eq_true.1 hh s (List.mem_of_getElem? h)
  rw [hs] at this
  cases this
 simp only [rowOk, this, Bool.and_false]
set_option maxHeartbeats 8000000 in
theorem d_tab {l : List (List ByteArray)} (hsz : ∀ r ∈ l, r.length < 1000000) : DK 37 [.one (.f (rowsD l))] fun d => d = .bool (tabB l) := by
 refine dfn_ok cp37 rfl GHro fun Z0 lo => ?_
 by_cases h1 : (l.length : Int) < 1
 ·have e1 : decide ((l.length : Int) < 1) = true := decide_eq_true h1
  refine goD ?_; intros
  simp only [e1]
  refine goD ?_; intros
  refine ds_if (t := true) rfl (fun _ => ?_) (fun h => by cases h)
  refine goD ?_; intros
  exact ds_ret ⟨_, rfl, rfl, by rw [show tabB l = false by simp [tabB]; omega]⟩
 ·have e1 : decide ((l.length : Int) < 1) = false := decide_eq_false h1
  obtain ⟨r0, h0⟩ : ∃ r, l[0]? = some r := ⟨_, List.getElem?_eq_getElem oM⟩
  have hr0 : l.getD 0 [] = r0 := by rw [List.getD_eq_getElem?_getD, h0]; rfl
  have hs0 := rows_at h0
  by_cases h6 : (l.length : Int) > 6
  ·have e6 : decide ((l.length : Int) > 6) = true := decide_eq_true h6
   refine goD ?_; intros
   simp only [e1]
   refine goD ?_; intros
   simp only [e6]
   refine goD ?_; intros
   refine ds_if (t := true) rfl (fun _ => ?_) (fun h => by cases h)
   refine goD ?_; intros
   exact ds_ret ⟨_, rfl, rfl, by rw [show tabB l = false by simp [tabB]; omega]⟩
  ·have e6 : decide ((l.length : Int) > 6) = false := decide_eq_false h6
   by_cases h3 : (r0.length : Int) < 1
   ·have e3 : decide ((r0.length : Int) < 1) = true := decide_eq_true h3
    refine goD ?_; intros
    simp only [e1]
    refine goD ?_; intros
    simp only [e6]
    refine goD ?_; intros
    simp only [e3]
    refine goD ?_; intros
    refine ds_if (t := true) rfl (fun _ => ?_) (fun h => by cases h)
    refine goD ?_; intros
    exact ds_ret ⟨_, rfl, rfl, by
     have : decide (1 <= (l.getD 0 []).length) = false := by rw [hr0]; exact decide_eq_false (by omega)
     rw [show tabB l = false by simp only [tabB, this, Bool.and_false, Bool.false_and]]⟩
   ·have e3 : decide ((r0.length : Int) < 1) = false := decide_eq_false h3
    refine goD ?_; intros
    simp only [e1]
    refine goD ?_; intros
    simp only [e6]
    refine goD ?_; intros
    simp only [e3]
    refine goD ?_; intros
    refine ds_if (t := decide ((r0.length : Int) > 4)) rfl (fun h4 => ?_) (fun h4 => ?_)
    ·have h4 := of_decide_eq_true h4
     refine goD ?_; intros
     exact ds_ret ⟨_, rfl, rfl, by
      have : decide ((l.getD 0 []).length <= 4) = false := by rw [hr0]; exact decide_eq_false (by omega)
      rw [show tabB l = false by simp only [tabB, this, Bool.and_false, Bool.false_and]]⟩
    ·have h4 := of_decide_eq_false h4
     refine goD ?_; intros
     refine ds_loop (fun m E S nk => ∃ i : Nat, i + m = l.length /\ (∀ (j : Nat) r, j < i -> l[j]? = some r -> rowOk r0.length r = true) /\ E = [(0, .one (.f (rowsD l))), (29, .one (.f (rowsD l))), (30, .int l.length), (31, .int i)] /\ S = [] /\ nk = 0)
      ⟨l.length, _, _, _, [], ?wk, 0, oM, fun j r hj => oM, rfl, rfl, rfl⟩ ?_
     case wk => exact wkA
     rintro m E S nk ⟨i, hi, hok, rfl, rfl, rfl⟩
     refine goD ?_; intros
     refine ds_if rfl (fun hi2 => ?_) (fun hi2 => ?_)
     ·have hi2 : i < l.length := by have := of_decide_eq_true hi2; omega
      obtain ⟨r, hr⟩ : ∃ r, l[i]? = some r := ⟨_, List.getElem?_eq_getElem hi2⟩
      have hsr := rows_at hr
      have hlr := hsz r (List.mem_of_getElem? hr)
      refine goD ?_; intros
      refine ds_if (t := !decide ((r.length : Int) = r0.length)) rfl (fun hb => ?_) (fun hb => ?_)
      ·refine goD ?_; intros
       exact ds_ret ⟨_, rfl, rfl, by
        have hb : ¬ (r.length : Int) = r0.length := by simpa using hb
        rw [tab_no hr (by rw [hr0]; have : decide (r.length = r0.length) = false := decide_eq_false (by omega); simp only [rowOk, this, Bool.false_and])]⟩
      ·have hb : (r.length : Int) = r0.length := by simpa using hb
       refine goD ?_; intros
       refine ds_loop (fun m E S nk => ∃ k : Nat, k + m = r.length /\ (∀ (j : Nat) s, j < k -> r[j]? = some s -> (decide (s.size <= 40) && cleanB s) = true) /\ E = [(0, .one (.f (rowsD l))), (29, .one (.f (rowsD l))), (30, .int l.length), (31, .int i), (42, .one (.f (rowD r))), (43, .int r.length), (44, .int k)] /\ S = [] /\ nk = 0)
        ⟨r.length, _, _, _, [], ?wk, 0, oM, fun j r hj => oM, rfl, rfl, rfl⟩ ?_
       case wk => exact wkA
       rintro m2 E S nk ⟨k, hk, hok2, rfl, rfl, rfl⟩
       refine goD ?_; intros
       refine ds_if rfl (fun hk2 => ?_) (fun hk2 => ?_)
       ·have hk2 : k < r.length := by have := of_decide_eq_true hk2; omega
        obtain ⟨s, hs⟩ : ∃ s, r[k]? = some s := ⟨_, List.getElem?_eq_getElem hk2⟩
        have hss := strs_at hs
        have no : (decide (s.size <= 40) && cleanB s) = false -> tabB l = false := fun h => tab_no hr (by rw [hr0]; exact row_no hs h)
        by_cases h40 : (s.size : Int) > 40
        ·have e40 : decide ((s.size : Int) > 40) = true := decide_eq_true h40
         refine goD ?_; intros
         simp only [e40]
         refine goD ?_; intros
         refine ds_if (t := true) rfl (fun _ => ?_) (fun h => by cases h)
         refine goD ?_; intros
         exact ds_ret ⟨_, rfl, rfl, by rw [no (by rw [decide_eq_false (by omega), Bool.false_and])]⟩
        ·have e40 : decide ((s.size : Int) > 40) = false := decide_eq_false h40
         refine goD ?_; intros
         simp only [e40]
         refine goD ?_; intros
         refine dw_cf rfl rfl d_clean ?_
         rintro _ rfl
         refine goD ?_; intros
         refine ds_if (t := !cleanB s) rfl (fun hb2 => ?_) (fun hb2 => ?_)
         ·have hb2 : cleanB s = false := by simpa using hb2
          refine goD ?_; intros
          exact ds_ret ⟨_, rfl, rfl, by rw [no (by rw [hb2, Bool.and_false])]⟩
         ·have hb2 : cleanB s = true := by simpa using hb2
          refine goD ?_; intros
          refine ⟨m2 - 1, oM, _, _, _, [], ?wk, k + 1, oM, fun j s' hj hs' => ?_, rfl, rfl, rfl⟩
          case wk => exact wkA
          by_cases e : j = k
          ·subst e
           rw [hs] at hs'
           obtain rfl := Option.some.inj hs'
           rw [hb2, decide_eq_true (by omega), Bool.and_true]
          ·exact hok2 j s' oM hs'
       ·have hk2 : k = r.length := by have := of_decide_eq_false hk2; omega
        subst hk2
        refine goD ?_; intros
        refine ⟨m - 1, oM, _, _, _, [], ?wk, i + 1, oM, fun j r' hj hr' => ?_, rfl, rfl, rfl⟩
        case wk => exact wkA
        by_cases e : j = i
        ·subst e
         rw [hr] at hr'
         obtain rfl := Option.some.inj hr'
         have : (r.all fun s => decide (s.size <= 40) && cleanB s) = true := List.all_eq_true.2 fun s hs => by
          obtain ⟨q, hq⟩ := List.getElem?_of_mem hs
          exact hok2 q s (List.getElem?_eq_some_iff.1 hq).1 hq
         rw [rowOk, this, decide_eq_true (by omega), Bool.and_true]
        ·exact hok j r' oM hr'
     ·have hi2 : i = l.length := by have := of_decide_eq_false hi2; omega
      subst hi2
      refine goD ?_; intros
      exact ds_ret ⟨_, rfl, rfl, by
       have : (l.all fun r => decide (r.length = (l.getD 0 []).length) && r.all fun s => decide (s.size <= 40) && cleanB s) = true := List.all_eq_true.2 fun r hr => by
        obtain ⟨j, hj⟩ := List.getElem?_of_mem hr
        rw [hr0]
        exact hok j r (List.getElem?_eq_some_iff.1 hj).1 hj
       have g1 : decide (1 <= l.length) = true := decide_eq_true oM
       have g2 : decide (l.length <= 6) = true := decide_eq_true oM
       have g3 : decide (1 <= (l.getD 0 []).length) = true := by rw [hr0]; exact decide_eq_true (by omega)
       have g4 : decide ((l.getD 0 []).length <= 4) = true := by rw [hr0]; exact decide_eq_true (by omega)
       rw [show tabB l = true by simp only [tabB, this, g1, g2, g3, g4, Bool.and_true]]⟩
def rightB (b : Blk) : Bool :=
 if b.kind = 1 \/ b.kind = 4 then cleanB b.text && emptyB { b with text := ⟨#[]⟩ }
 else if b.kind = 2 then decide (1 <= b.level) && decide (b.level <= 3) && cleanB b.text && emptyB { b with text := ⟨#[]⟩, level := 0 }
 else if b.kind = 3 then tabB b.rows && emptyB { b with rows := [] }
 else if b.kind = 7 then decide (1 <= b.page) && decide (b.page <= 9999) && emptyB { b with page := 0 }
 else false
def asNil (d' d : DC) : Prop := d' = d \/ (d' = .f (.c .nils) /\ ∃ e, d = .f (.sl e 0 []))
theorem asNil_ok {Z : Nat -> Prop} {H : Hp} : ∀ {l' l : List DC} {cs : List C}, All2 asNil l' l -> All2 (RD Z H nob) l' cs -> All2 (RD Z H nob) l cs
 | [], [], [], _, _ => trivial
 | a :: l', b :: l, c :: cs, h, k => ⟨by
   rcases h.1 with e|⟨e1, e, e2⟩
   ·rw [<- e]; exact k.1
   ·have h1 := k.1
    rw [e1] at h1
    rw [e2]
    cases h1
    exact .nil e, asNil_ok h.2 k.2⟩
 | [], _ :: _, _, h, _ => h.elim
 | _ :: _, [], _, h, _ => h.elim
 | [], [], _ :: _, _, h => h.elim
 | _ :: _, _ :: _, [], _, h => h.elim
theorem d_emptyN {b : Blk} {l' : List DC} (h : All2 asNil l' ((blkF b).map .f)) : DK 40 [.agg l'] fun d => d = .bool (emptyB b) := fun H Z args hw hz hg ha => by
 match args, ha with
 | [v], ⟨⟨cs, e, hcs⟩, _⟩ =>
  subst e
  exact d_empty (b := b) H Z [.agg cs] hw hz hg ⟨⟨cs, rfl, asNil_ok h hcs⟩, trivial⟩
set_option maxHeartbeats 8000000 in
theorem d_right1 {b : Blk} (hk : b.kind = 1) : DK 19 [blkD b] fun d => d = .bool (cleanB b.text && emptyB { b with text := ⟨#[]⟩ }) := by
 obtain ⟨kind, level, text, rows, f, w, h, gap, nf, ff, page⟩ := b
 simp only at hk
 subst hk
 refine dfn_ok cp19 rfl GHro fun Z0 lo => ?_
 refine goD ?_; intros
 refine ds_if (t := true) rfl (fun _ => ?_) (fun h => by cases h)
 refine goD ?_; intros
 refine ds_if (t := true) rfl (fun _ => ?_) (fun h => by cases h)
 refine goD ?_; intros
 refine dw_cf rfl rfl d_clean ?_
 rintro _ rfl
 generalize hc : cleanB text = ok
 cases ok
 ·refine goD ?_; intros
  exact ds_ret ⟨_, rfl, rfl, by simp only [hc, Bool.false_and]⟩
 ·refine goD ?_; intros
  refine dw_cf rfl rfl (d_empty (b := ⟨1, level, ⟨#[]⟩, rows, f, w, h, gap, nf, ff, page⟩)) ?_
  rintro _ rfl
  refine goD ?_; intros
  exact ds_ret ⟨_, rfl, rfl, by simp only [hc, Bool.true_and]⟩
set_option maxHeartbeats 8000000 in
theorem d_right4 {b : Blk} (hk : b.kind = 4) : DK 19 [blkD b] fun d => d = .bool (cleanB b.text && emptyB { b with text := ⟨#[]⟩ }) := by
 obtain ⟨kind, level, text, rows, f, w, h, gap, nf, ff, page⟩ := b
 simp only at hk
 subst hk
 refine dfn_ok cp19 rfl GHro fun Z0 lo => ?_
 refine goD ?_; intros
 refine ds_if (t := false) rfl (fun h => by cases h) (fun _ => ?_)
 refine goD ?_; intros
 refine ds_if (t := true) rfl (fun _ => ?_) (fun h => by cases h)
 refine goD ?_; intros
 refine dw_cf rfl rfl d_clean ?_
 rintro _ rfl
 generalize hc : cleanB text = ok
 cases ok
 ·refine goD ?_; intros
  exact ds_ret ⟨_, rfl, rfl, by simp only [hc, Bool.false_and]⟩
 ·refine goD ?_; intros
  refine dw_cf rfl rfl (d_empty (b := ⟨4, level, ⟨#[]⟩, rows, f, w, h, gap, nf, ff, page⟩)) ?_
  rintro _ rfl
  refine goD ?_; intros
  exact ds_ret ⟨_, rfl, rfl, by simp only [hc, Bool.true_and]⟩
set_option maxHeartbeats 8000000 in
theorem d_right3 {b : Blk} (hsz : ∀ r ∈ b.rows, r.length < 1000000) (hk : b.kind = 3) : DK 19 [blkD b] fun d => d = .bool (tabB b.rows && emptyB { b with rows := [] }) := by
 obtain ⟨kind, level, text, rows, f, w, h, gap, nf, ff, page⟩ := b
 simp only at hk
 subst hk
 refine dfn_ok cp19 rfl GHro fun Z0 lo => ?_
 refine goD ?_; intros
 refine ds_if (t := false) rfl (fun h => by cases h) (fun _ => ?_)
 refine goD ?_; intros
 refine ds_if (t := false) rfl (fun h => by cases h) (fun _ => ?_)
 refine goD ?_; intros
 refine ds_if (t := false) rfl (fun h => by cases h) (fun _ => ?_)
 refine goD ?_; intros
 refine ds_if (t := true) rfl (fun _ => ?_) (fun h => by cases h)
 refine goD ?_; intros
 refine dw_cf rfl rfl (d_tab hsz) ?_
 rintro _ rfl
 generalize hc : tabB rows = ok
 cases ok
 ·refine goD ?_; intros
  exact ds_ret ⟨_, rfl, rfl, by simp only [hc, Bool.false_and]⟩
 ·refine goD ?_; intros
  refine dw_cf rfl rfl (d_emptyN (b := ⟨3, level, text, [], f, w, h, gap, nf, ff, page⟩) ⟨.inl rfl, .inl rfl, .inl rfl, .inr ⟨rfl, 1, rfl⟩, .inl rfl, .inl rfl, .inl rfl, .inl rfl, .inl rfl, .inl rfl, trivial⟩) ?_
  rintro _ rfl
  refine goD ?_; intros
  exact ds_ret ⟨_, rfl, rfl, by simp only [hc, Bool.true_and]⟩
set_option maxHeartbeats 8000000 in
theorem d_right7 {b : Blk} (hk : b.kind = 7) : DK 19 [blkD b] fun d => d = .bool ((decide (b.page >= 1) && decide (b.page <= 9999)) && emptyB { b with page := 0 }) := by
 obtain ⟨kind, level, text, rows, f, w, h, gap, nf, ff, page⟩ := b
 simp only at hk
 subst hk
 refine dfn_ok cp19 rfl GHro fun Z0 lo => ?_
 refine goD ?_; intros
 refine ds_if (t := false) rfl (fun h => by cases h) (fun _ => ?_)
 refine goD ?_; intros
 refine ds_if (t := false) rfl (fun h => by cases h) (fun _ => ?_)
 refine goD ?_; intros
 refine ds_if (t := false) rfl (fun h => by cases h) (fun _ => ?_)
 refine goD ?_; intros
 refine ds_if (t := false) rfl (fun h => by cases h) (fun _ => ?_)
 refine goD ?_; intros
 refine ds_if (t := false) rfl (fun h => by cases h) (fun _ => ?_)
 refine goD ?_; intros
 refine ds_if (t := false) rfl (fun h => by cases h) (fun _ => ?_)
 refine goD ?_; intros
 refine ds_if (t := true) rfl (fun _ => ?_) (fun h => by cases h)
 refine goD ?_; intros
 cases e1 : decide (page >= 1) with
 | false =>
  try simp only [e1]
  refine goD ?_; intros
  exact ds_ret ⟨_, rfl, rfl, by simp only [e1, Bool.false_and]⟩
 | true =>
  cases e2 : decide (page <= 9999) with
  | false =>
   try simp only [e1, e2]
   refine goD ?_; intros
   exact ds_ret ⟨_, rfl, rfl, by simp only [e1, e2, Bool.and_false, Bool.false_and]⟩
  | true =>
   try simp only [e1, e2]
   refine goD ?_; intros
   refine dw_cf rfl rfl (d_empty (b := ⟨7, level, text, rows, f, w, h, gap, nf, ff, 0⟩)) ?_
   rintro _ rfl
   refine goD ?_; intros
   exact ds_ret ⟨_, rfl, rfl, by simp only [e1, e2, Bool.true_and]⟩
set_option maxHeartbeats 8000000 in
theorem d_right2 {b : Blk} (hk : b.kind = 2) : DK 19 [blkD b] fun d => d = .bool ((decide (b.level >= 1) && decide (b.level <= 3)) && cleanB b.text && emptyB { b with text := ⟨#[]⟩, level := 0 }) := by
 obtain ⟨kind, level, text, rows, f, w, h, gap, nf, ff, page⟩ := b
 simp only at hk
 subst hk
 refine dfn_ok cp19 rfl GHro fun Z0 lo => ?_
 refine goD ?_; intros
 refine ds_if (t := false) rfl (fun h => by cases h) (fun _ => ?_)
 refine goD ?_; intros
 refine ds_if (t := false) rfl (fun h => by cases h) (fun _ => ?_)
 refine goD ?_; intros
 refine ds_if (t := true) rfl (fun _ => ?_) (fun h => by cases h)
 refine goD ?_; intros
 cases e1 : decide (level >= 1) with
 | false =>
  try simp only [e1]
  refine goD ?_; intros
  exact ds_ret ⟨_, rfl, rfl, by simp only [e1, Bool.false_and]⟩
 | true =>
  cases e2 : decide (level <= 3) with
  | false =>
   try simp only [e1, e2]
   refine goD ?_; intros
   exact ds_ret ⟨_, rfl, rfl, by simp only [e1, e2, Bool.and_false, Bool.false_and]⟩
  | true =>
   try simp only [e1, e2]
   refine goD ?_; intros
   refine dw_cf rfl rfl d_clean ?_
   rintro _ rfl
   generalize hc : cleanB text = ok
   cases ok
   ·refine goD ?_; intros
    exact ds_ret ⟨_, rfl, rfl, by simp only [e1, e2, hc, Bool.and_false, Bool.false_and]⟩
   ·refine goD ?_; intros
    refine dw_cf rfl rfl (d_empty (b := ⟨2, 0, ⟨#[]⟩, rows, f, w, h, gap, nf, ff, page⟩)) ?_
    rintro _ rfl
    refine goD ?_; intros
    exact ds_ret ⟨_, rfl, rfl, by simp only [e1, e2, hc, Bool.true_and]⟩
inductive NilF : FD -> FD -> Prop where
 | refl (d : FD) : NilF d d
 | nil (e : Nat) : NilF (.c .nils) (.sl e 0 [])
 | sl {e n : Nat} {l' l : List FD} : l'.length = l.length -> (∀ (i : Nat) a b, l'[i]? = some a -> l[i]? = some b -> NilF a b) -> NilF (.sl e n l') (.sl e n l)
theorem NilF.ok {Z : Nat -> Prop} {H : Hp} {d' d : FD} (h : NilF d' d) : ∀ {c : C}, RF Z H d' c -> RF Z H d c := by
 induction h with
 | refl d => exact fun h => h
 | nil e => intro c h; cases h; exact .nil e
 | @sl e n l' l hl _ ih =>
  intro c h
  cases h with
  | nil _ => cases l with
   | nil => exact .nil e
   | cons _ _ => simp at hl
  | @sl _ _ b o cap ex _ cs hz hn hc hld hall =>
   refine .sl hz oM hc hld fun i d c hd hc' => ?_
   have hi : i < l'.length := by have := (List.getElem?_eq_some_iff.1 hd).1; omega
   obtain ⟨a, ha⟩ : ∃ a, l'[i]? = some a := ⟨_, List.getElem?_eq_getElem hi⟩
   exact ih i a d ha hd (hall i a c ha hc')
theorem d_nilF {f : FuncId} {d' d : FD} {R : DV -> Prop} (h : NilF d' d) (k : DK f [.one (.f d)] R) : DK f [.one (.f d')] R := fun H Z args hw hz hg ha => by
 match args, ha with
 | [v], ⟨⟨c, e, hc⟩, _⟩ =>
  subst e
  exact k H Z [.one c] hw hz hg ⟨⟨c, rfl, h.ok hc⟩, trivial⟩
def Easy (b : Blk) : Prop := (b.kind = 1 \/ b.kind = 2 \/ b.kind = 3 \/ b.kind = 4 \/ b.kind = 7) /\ ∀ r ∈ b.rows, r.length < 1000000
theorem d_right {b : Blk} (h : Easy b) : DK 19 [blkD b] fun d => d = .bool (rightB b) := by
 obtain ⟨hk, hsz⟩ := h
 unfold rightB
 rcases hk with h|h|h|h|h
 ·rw [if_pos (Or.inl h)]; exact d_right1 h
 ·rw [if_neg (by omega), if_pos h]; exact d_right2 h
 ·rw [if_neg (by omega), if_neg (by omega), if_pos h]; exact d_right3 hsz h
 ·rw [if_pos (Or.inr h)]; exact d_right4 h
 ·rw [if_neg (by omega), if_neg (by omega), if_neg (by omega), if_pos h]; exact d_right7 h
def chk (R : Blk -> Bool) : Int -> Int -> Nat -> List Blk -> Int × Int
 | _, _, _, [] => (0, 0)
 | prev, page, i, b :: l =>
  if R b = false then (i, 170)
  else if b.kind = 4 /\ (i = 0 \/ prev ≠ 1 /\ prev ≠ 4) then (i, 170)
  else if b.kind = 7 /\ b.page <= page then (i, 170)
  else chk R b.kind (if b.kind = 7 then b.page else page) (i + 1) l
def checkB (R : Blk -> Bool) (l : List Blk) : Int × Int := if l.length > 100 then (-1, 2) else chk R 0 0 0 l
def validB (R : Blk -> Bool) (l : List Blk) : Bool := decide ((checkB R l).2 = 0)
structure At (R : Blk -> Bool) (l : List Blk) (i : Nat) (page : Int) : Prop where
 eq : chk R 0 0 0 l = chk R (match i with|0 => 0|j + 1 => (l.getD j ⟨0, 0, ⟨#[]⟩, [], [], 0, 0, 0, 0, [], 0⟩).kind) page i (l.drop i)
theorem At.zero (R : Blk -> Bool) (l : List Blk) : At R l 0 0 := ⟨rfl⟩
theorem At.done {R : Blk -> Bool} {l : List Blk} {page : Int} (h : At R l l.length page) : chk R 0 0 0 l = (0, 0) := by
 rw [h.eq, List.drop_length]
 rfl
theorem drop_at {α : Type} {l : List α} {i : Nat} {b : α} (h : l[i]? = some b) : l.drop i = b :: l.drop (i + 1) := by
 obtain ⟨hi, e⟩ := List.getElem?_eq_some_iff.1 h
 rw [List.drop_eq_getElem_cons hi, e]
theorem At.step {R : Blk -> Bool} {l : List Blk} {i : Nat} {page : Int} {b : Blk} (h : At R l i page) (hb : l[i]? = some b) (h1 : R b = true) (h2 : ¬ (b.kind = 4 /\ (i = 0 \/ (l.getD (i - 1) ⟨0, 0, ⟨#[]⟩, [], [], 0, 0, 0, 0, [], 0⟩).kind ≠ 1 /\ (l.getD (i - 1) ⟨0, 0, ⟨#[]⟩, [], [], 0, 0, 0, 0, [], 0⟩).kind ≠ 4))) (h3 : ¬ (b.kind = 7 /\ b.page <= page)) : At R l (i + 1) (if b.kind = 7 then b.page else page) := by
 refine ⟨?_⟩
 rw [h.eq, drop_at hb]
 have e : (l.getD i ⟨0, 0, ⟨#[]⟩, [], [], 0, 0, 0, 0, [], 0⟩) = b := by rw [List.getD_eq_getElem?_getD, hb]; rfl
 simp only [chk, h1, e]
 cases i with
 | zero =>
  simp only at h2 ⊢
  rw [if_neg (by decide), if_neg (by simpa using h2), if_neg h3]
 | succ j =>
  rw [Nat.add_sub_cancel] at h2
  simp only at h2 ⊢
  rw [if_neg (by decide), if_neg (by simpa using h2), if_neg h3]
theorem At.bad {R : Blk -> Bool} {l : List Blk} {i : Nat} {page : Int} {b : Blk} (h : At R l i page) (hb : l[i]? = some b) (hc : R b = false \/ (b.kind = 4 /\ (i = 0 \/ (l.getD (i - 1) ⟨0, 0, ⟨#[]⟩, [], [], 0, 0, 0, 0, [], 0⟩).kind ≠ 1 /\ (l.getD (i - 1) ⟨0, 0, ⟨#[]⟩, [], [], 0, 0, 0, 0, [], 0⟩).kind ≠ 4)) \/ (b.kind = 7 /\ b.page <= page)) : chk R 0 0 0 l = ((i : Int), 170) := by
 rw [h.eq, drop_at hb]
 unfold chk
 by_cases h1 : R b = false
 ·rw [if_pos h1]
 ·rw [if_neg h1]
  cases i with
  | zero =>
   simp only at hc ⊢
   by_cases h2 : b.kind = 4
   ·rw [if_pos ⟨h2, .inl trivial⟩]
   ·rw [if_neg (by simp [h2])]
    rcases hc with h|h|h
    ·exact absurd h h1
    ·exact absurd h.1 h2
    ·rw [if_pos h]
  | succ j =>
   rw [Nat.add_sub_cancel] at hc
   simp only at hc ⊢
   rcases hc with h|⟨h2, h⟩|h
   ·exact absurd h h1
   ·rw [if_pos ⟨h2, .inr (by simpa using h)⟩]
   ·by_cases h2 : b.kind = 4 /\ (j + 1 = 0 \/ (l.getD j ⟨0, 0, ⟨#[]⟩, [], [], 0, 0, 0, 0, [], 0⟩).kind ≠ 1 /\ (l.getD j ⟨0, 0, ⟨#[]⟩, [], [], 0, 0, 0, 0, [], 0⟩).kind ≠ 4)
    ·rw [if_pos h2]
    ·rw [if_neg h2, if_pos h]
theorem blk_at {l : List Blk} {i : Nat} {b : Blk} (h : l[i]? = some b) : subL (l.flatMap blkF) (i * 10) 10 = some (blkF b) := subL_flat (f := blkF) (e := 10) (fun _ => rfl) h
set_option maxHeartbeats 8000000 in
theorem d_check {R : Blk -> Bool} {l : List Blk} (hR : ∀ b ∈ l, DK 19 [blkD b] fun d => d = .bool (R b)) : DK 12 [bookD l] fun d => d = .tup [.int (checkB R l).1, .int (checkB R l).2] := by
 refine dfn_ok cp12 rfl GHro fun Z0 lo => ?_
 refine goD ?_; intros
 refine ds_if (t := decide ((l.length : Int) > 100)) rfl (fun h1 => ?_) (fun h1 => ?_)
 ·have h1 := of_decide_eq_true h1
  refine goD ?_; intros
  exact ds_ret ⟨_, rfl, rfl, by rw [checkB, if_pos (by omega)]⟩
 ·have h1 := of_decide_eq_false h1
  refine goD ?_; intros
  refine ds_loop (fun m E S nk => ∃ (i : Nat) (page : Int), i + m = l.length /\ At R l i page /\ E = [(0, bookD l), (4, .int page), (10, bookD l), (11, .int l.length), (12, .int i)] /\ S = [] /\ nk = 0)
   ⟨l.length, _, _, _, [], ?wk, 0, 0, oM, At.zero R l, rfl, rfl, rfl⟩ ?_
  case wk => exact wkA
  rintro m E S nk ⟨i, page, hi, hat, rfl, rfl, rfl⟩
  refine goD ?_; intros
  refine ds_if rfl (fun hi2 => ?_) (fun hi2 => ?_)
  ·have hi2 : i < l.length := by have := of_decide_eq_true hi2; omega
   obtain ⟨b, hb⟩ : ∃ b, l[i]? = some b := ⟨_, List.getElem?_eq_getElem hi2⟩
   have hsb := blk_at hb
   have hRb := hR b (List.mem_of_getElem? hb)
   refine goD ?_; intros
   refine dw_cf rfl rfl hRb ?_
   rintro _ rfl
   refine goD ?_; intros
   refine ds_if (t := !R b) rfl (fun hc => ?_) (fun hc => ?_)
   ·have hc : R b = false := by simpa using hc
    refine goD ?_; intros
    exact ds_ret ⟨_, rfl, rfl, by rw [checkB, if_neg (by omega), hat.bad hb (.inl hc)]⟩
   ·have hc : R b = true := by simpa using hc
    refine goD ?_; intros
    refine ds_if (t := decide (b.kind = 4)) rfl (fun hk => ?_) (fun hk => ?_)
    ·have hk := of_decide_eq_true hk
     cases i with
     | zero =>
      have e0 : decide (((0 : Nat) : Int) = 0) = true := rfl
      refine goD ?_; intros
      refine ds_if (t := true) rfl (fun _ => ?_) (fun h => by cases h)
      refine goD ?_; intros
      exact ds_ret ⟨_, rfl, rfl, by rw [checkB, if_neg (by omega), hat.bad hb (.inr (.inl ⟨hk, .inl rfl⟩))]⟩
     | succ j =>
      obtain ⟨q, hq⟩ : ∃ q, l[j]? = some q := ⟨_, List.getElem?_eq_getElem oM⟩
      have hsq := blk_at hq
      have e0 : (((j + 1 : Nat) : Int) == 0) = false := by rw [beq_eq_false_iff_ne]; omega
      have eg : (l.getD (j + 1 - 1) ⟨0, 0, ⟨#[]⟩, [], [], 0, 0, 0, 0, [], 0⟩) = q := by rw [Nat.add_sub_cancel, List.getD_eq_getElem?_getD, hq]; rfl
      refine goD ?_; intros
      simp only [e0]
      rw [show (IntKind.i64.wrap (((j + 1 : Nat) : Int) - 1)) = ((j : Nat) : Int) by rw [dwrap (by omega) (by omega)]; omega]
      refine goD ?_; intros
      have hg (hok : ¬ (q.kind ≠ 1 /\ q.kind ≠ 4)) : At R l (j + 1 + 1) page := by
       have hn := hat.step hb hc (fun h => by rw [eg] at h; rcases h.2 with h|h; · omega
                                              ·exact hok h) (fun h => by omega)
       rwa [if_neg oM] at hn
      have hbad (hno : q.kind ≠ 1 /\ q.kind ≠ 4) : checkB R l = (((j + 1 : Nat) : Int), 170) := by
       rw [checkB, if_neg (by omega), hat.bad hb (.inr (.inl ⟨hk, .inr (by rw [eg]; exact hno)⟩))]
      cases e1 : (q.kind != 1) with
      | false =>
       have e1' : q.kind = 1 := by simpa using e1
       simp only [e1, Bool.false_eq_true, if_false]
       refine goD ?_; intros
       refine ds_if (t := false) rfl (fun h => by cases h) (fun _ => ?_)
       refine goD ?_; intros
       refine ⟨m - 1, oM, _, _, _, [], ?wk, j + 1 + 1, page, oM, hg (fun h => h.1 e1'), rfl, rfl, rfl⟩
       case wk => exact wkA
      | true =>
       have e1' : q.kind ≠ 1 := by simpa using e1
       simp only [e1, if_true]
       rw [show (IntKind.i64.wrap (((j + 1 : Nat) : Int) - 1)) = ((j : Nat) : Int) by rw [dwrap (by omega) (by omega)]; omega]
       refine goD ?_; intros
       refine ds_if (t := (q.kind != 4)) rfl (fun h4 => ?_) (fun h4 => ?_)
       ·have h4 : q.kind ≠ 4 := by simpa using h4
        refine goD ?_; intros
        exact ds_ret ⟨_, rfl, rfl, by rw [hbad ⟨e1', h4⟩]⟩
       ·have h4 : q.kind = 4 := by simpa using h4
        refine goD ?_; intros
        refine ⟨m - 1, oM, _, _, _, [], ?wk, j + 1 + 1, page, oM, hg (fun h => h.2 h4), rfl, rfl, rfl⟩
        case wk => exact wkA
    ·have hk := of_decide_eq_false hk
     refine goD ?_; intros
     refine ds_if (t := decide (b.kind = 7)) rfl (fun h7 => ?_) (fun h7 => ?_)
     ·have h7 := of_decide_eq_true h7
      refine goD ?_; intros
      refine ds_if (t := decide (b.page <= page)) rfl (fun hp => ?_) (fun hp => ?_)
      ·have hp := of_decide_eq_true hp
       refine goD ?_; intros
       exact ds_ret ⟨_, rfl, rfl, by rw [checkB, if_neg (by omega), hat.bad hb (.inr (.inr ⟨h7, hp⟩))]⟩
      ·have hp := of_decide_eq_false hp
       refine goD ?_; intros
       have hn := hat.step hb hc (fun h => hk h.1) (fun h => hp h.2)
       rw [if_pos h7] at hn
       refine ⟨m - 1, oM, _, _, _, [], ?wk, i + 1, b.page, oM, hn, rfl, rfl, rfl⟩
       case wk => exact wkA
     ·have h7 := of_decide_eq_false h7
      refine goD ?_; intros
      have hn := hat.step hb hc (fun h => hk h.1) (fun h => h7 h.1)
      rw [if_neg h7] at hn
      refine ⟨m - 1, oM, _, _, _, [], ?wk, i + 1, page, oM, hn, rfl, rfl, rfl⟩
      case wk => exact wkA
  ·have hi2 : i = l.length := by have := of_decide_eq_false hi2; omega
   subst hi2
   refine goD ?_; intros
   exact ds_ret ⟨_, rfl, rfl, by rw [checkB, if_neg (by omega), hat.done]⟩
set_option maxHeartbeats 8000000 in
theorem d_valid {R : Blk -> Bool} {l : List Blk} (hR : ∀ b ∈ l, DK 19 [blkD b] fun d => d = .bool (R b)) : DK 10 [bookD l] fun d => d = .bool (validB R l) := by
 refine dfn_ok cp10 rfl GHro fun Z0 lo => ?_
 refine goD ?_; intros
 refine dw_cf rfl rfl (d_check hR) ?_
 rintro _ rfl
 refine goD ?_; intros
 refine ds_ret ⟨_, rfl, rfl, congrArg (fun z => DV.bool z) ?_⟩
 rw [validB]
 rfl
theorem nil2 : ∀ {l' l : List FD}, All2 NilF l' l -> l'.length = l.length /\ ∀ (i : Nat) a b, l'[i]? = some a -> l[i]? = some b -> NilF a b
 | [], [], _ => ⟨rfl, fun i a b h => by simp at h⟩
 | x :: l', y :: l, h => ⟨by simp only [List.length_cons, (nil2 h.2).1], fun i a b ha hb => by
   cases i with
   | zero => simp at ha hb; subst ha; subst hb; exact h.1
   | succ i => exact (nil2 h.2).2 i a b (by simpa using ha) (by simpa using hb)⟩
 | [], _ :: _, h => h.elim
 | _ :: _, [], h => h.elim
theorem NilF.sl2 {e n : Nat} {l' l : List FD} (h : All2 NilF l' l) : NilF (.sl e n l') (.sl e n l) := .sl (nil2 h).1 (nil2 h).2
def bk (kind level : Int) (text : ByteArray) (rows : List (List ByteArray)) (page : Int) : Blk := ⟨kind, level, text, rows, [], 0, 0, 0, 0, [], page⟩
def nilBlk (kind level : Int) (text : ByteArray) (rows : FD) (page : Int) : List FD := [FD.int kind, FD.int level, .c (.str text), rows, .c .nils, FD.int 0, FD.int 0, FD.int 0, .c .nils, FD.int page]
theorem nil_blk {kind level : Int} {text : ByteArray} {rows : List (List ByteArray)} {page : Int} {rowsF : FD} (h : NilF rowsF (rowsD rows)) : All2 NilF (nilBlk kind level text rowsF page) (blkF (bk kind level text rows page)) :=
 ⟨.refl _, .refl _, .refl _, h, .nil 2, .refl _, .refl _, .refl _, .nil 3, .refl _, trivial⟩
theorem all2_app {l1' l1 : List FD} : ∀ {l2' l2 : List FD}, All2 NilF l2' l2 -> All2 NilF l1' l1 -> All2 NilF (l2' ++ l1') (l2 ++ l1)
 | [], [], _, h => h
 | _ :: _, _ :: _, g, h => ⟨g.1, all2_app g.2 h⟩
 | [], _ :: _, g, _ => g.elim
 | _ :: _, [], g, _ => g.elim
theorem d_valid1 {kind level : Int} {text : ByteArray} {rows : List (List ByteArray)} {page : Int} {rowsF : FD} (h : NilF rowsF (rowsD rows)) (he : Easy (bk kind level text rows page)) : DK 10 [.one (.f (.sl 10 1 (nilBlk kind level text rowsF page)))] fun d => d = .bool (validB rightB [bk kind level text rows page]) := by
 refine d_nilF (d := .sl 10 [bk kind level text rows page].length ([bk kind level text rows page].flatMap blkF)) (NilF.sl2 ?_) (d_valid (l := [bk kind level text rows page]) fun b hb => ?_)
 ·rw [List.flatMap_cons, List.flatMap_nil, List.append_nil]; exact nil_blk h
 ·obtain rfl := List.mem_singleton.1 hb
  exact d_right he
theorem valid1 {b : Blk} (h : b.kind = 2 \/ b.kind = 3 \/ b.kind = 7) (hp : rightB b = true -> b.kind = 7 -> 1 <= b.page) : validB rightB [b] = rightB b := by
 unfold validB checkB chk
 rw [if_neg (by simp)]
 cases hr : rightB b with
 | false => rfl
 | true =>
  rw [if_neg (by decide), if_neg (by omega), if_neg (fun h => by have := hp hr h.1; omega)]
  rfl
def bs : Nat -> ByteArray
 | 0 => ⟨#[]⟩
 | k + 1 => bs k ++ ⟨#[98]⟩
theorem bs_size (k : Nat) : (bs k).size = k := by
 induction k with
 | zero => rfl
 | succ k ih => rw [bs, ByteArray.size_append, ih]; rfl
abbrev sA : ByteArray := ⟨#[97]⟩
theorem long_ok : ∀ k, k < 43 -> rightB (bk 3 0 ⟨#[]⟩ [[bs k]] 0) = (decide (1 <= k) && decide (k <= 40)) := by decide +kernel
theorem head_ok : ∀ k : Nat, k < 6 -> rightB (bk 2 k sA [] 0) = (decide (1 <= k) && decide (k <= 3)) := by decide +kernel
theorem rows_ok : ∀ i, i < 9 -> ∀ k, k < 6 -> rightB (bk 3 0 ⟨#[]⟩ (List.replicate i (List.replicate k sA)) 0) = (decide (1 <= i) && decide (i <= 6) && decide (1 <= k) && decide (k <= 4)) := by decide +kernel
theorem ink_ok (page : Int) : rightB (bk 7 0 ⟨#[]⟩ [] page) = (decide (1 <= page) && decide (page <= 9999)) := by
 have : emptyB { bk 7 0 ⟨#[]⟩ [] page with page := 0 } = true := (by decide +kernel : emptyB ⟨7, 0, ⟨#[]⟩, [], [], 0, 0, 0, 0, [], 0⟩ = true)
 unfold rightB
 have h1 : ¬ ((bk 7 0 ⟨#[]⟩ [] page).kind = 1 \/ (bk 7 0 ⟨#[]⟩ [] page).kind = 4) := (by decide : ¬ ((7 : Int) = 1 \/ (7 : Int) = 4))
 have h2 : ¬ (bk 7 0 ⟨#[]⟩ [] page).kind = 2 := (by decide : ¬ (7 : Int) = 2)
 have h3 : ¬ (bk 7 0 ⟨#[]⟩ [] page).kind = 3 := (by decide : ¬ (7 : Int) = 3)
 have h4 : (bk 7 0 ⟨#[]⟩ [] page).kind = 7 := rfl
 rw [if_neg h1, if_neg h2, if_neg h3, if_pos h4, this, Bool.and_true]
 rfl
abbrev para : Blk := bk 1 0 sA [] 0
theorem paras_ok : ∀ n, n < 103 -> checkB rightB (List.replicate n para) = if n > 100 then (-1, 2) else (0, 0) := by decide +kernel
end Go.Ah

namespace Go.Ab
section
variable {p : Par} {base rs n : Nat} {Q : DEnv -> Bx -> Nat -> Prop} {r : List SOper} {W : Wt} {A : List Nat} {E : DEnv} {S : Bx} {nk : Nat} {id : Nat} {dst : Option Nat} {aid : Option Nat} {ws : List Nat} {keep : Bool}
theorem allF_len : ∀ {l : List DC} {r : List FD}, allF l = some r -> r.length = l.length
 | [], r, h => by obtain rfl := Option.some.inj h; rfl
 | .f d :: l, r, h => by
  simp only [allF] at h
  split at h
  ·rename_i q hq
   obtain rfl := Option.some.inj h
   simp only [List.length_cons, allF_len hq]
  ·cases h
 | .g _ _ :: _, _, h|.ptr _ _ :: _, _, h|.own _ _ _ _ :: _, _, h|.fptr _ :: _, _, h|.fn _ _ :: _, _, h|.any :: _, _, h|.trow _ _ _ _ :: _, _, h|.tptr _ _ _ :: _, _, h|.om _ :: _, _, h|.yl _ :: _, _, h|.fz _ _ :: _, _, h => by cases h
theorem c2d_ok {Z : Nat -> Prop} {β : Beta} {H : Hp} (hS : SR p Z β H S nk) {k : Nat} {l : List DC} {m : List FD} (hk : lk S k = some (.cells l)) (hm : allF l = some m) : SR p Z β H (put k (.data m) S) nk := by
 have hl : ∀ j, lk (put k (.data m) S) j = if j = k then some (.data m) else lk S j := fun j => by
  rw [lk_put]
  split
  ·rename_i e; subst e; rw [hk]; rfl
  ·rfl
 refine { hS with box := fun κ x hx => ?_, inj := fun κ κ' x x' b N N' h1 h2 => ?_ }
 ·obtain ⟨j, i⟩ := κ
  by_cases hj : j = k
  ·subst hj
   cases i with
   | zero =>
    simp only [lk2, hl, if_true] at hx
    obtain rfl := Option.some.inj hx
    obtain ⟨s, hs, hb⟩ := hS.box (j, 0) (.cells l) (lk2_of hk rfl)
    refine ⟨s, hs, ?_⟩
    cases s with
    | nil =>
     have hb : l.length = 0 := hb
     show m.length = 0
     rw [allF_len hm, hb]
    | blk b N =>
     obtain ⟨g1, g2, g3, cs, rest, g4, g5, g6⟩ := hb
     exact ⟨g1, g2, g3, cs, rest, g4, g5, allF_ok hm g6⟩
   | succ i =>
    simp only [lk2, hl, if_true] at hx
    cases hx
  ·have : lk2 (put k (.data m) S) (j, i) = lk2 S (j, i) := by
    cases i <;> simp only [lk2, hl, if_neg hj]
   rw [this] at hx
   exact hS.box _ _ hx
 ·have g : ∀ i z, lk (put k (.data m) S) i = some z -> ∃ z', lk S i = some z' := fun i z h => by
   rw [hl] at h
   split at h
   ·rename_i e; subst e; exact ⟨_, hk⟩
   ·exact ⟨_, h⟩
  obtain ⟨z1, e1⟩ := g _ _ h1
  obtain ⟨z2, e2⟩ := g _ _ h2
  exact hS.inj κ κ' z1 z2 b N N' e1 e2
theorem dw_c2d (k : Nat) {l : List DC} {m : List FD} (hk : lk S k = some (.cells l)) (hm : allF l = some m) (h : DPW p base rs Q r W A E (put k (.data m) S) nk) : DPW p base rs Q r W A E S nk := .mk fun Z β H F c QP hS hE hC hA => h.run Z β H F c QP (c2d_ok hS hk hm) hE hC hA
theorem dw_scat {x y : Opd} {s t : ByteArray} (hx : ro E x = some (.one (.f (.c (.str s))))) (hy : ro E y = some (.one (.f (.c (.str t))))) (hs : s.size + t.size <= 9223372036854775807) (h : DPW p base rs Q r W A (setD E dst (.one (.f (.c (.str (s ++ t)))))) S nk) : DPW p base rs Q (⟨id, dst, .p (.scat x y), none, aid, ws, keep⟩ :: r) W A E S nk := by
 refine dw_pv (fun {Z β H F} hE => ⟨.one (.str (s ++ t)), ?_, exact_ok rfl⟩) h
 simp only [aPure, int_of hE hx, int_of hE hy]
 rw [if_pos hs]
end
end Go.Ab

namespace Go.Ah
open Go.Ab Go.Proofs
set_option maxRecDepth 1000000 in
theorem san_ev : evVal tabS tabE 5000 8 [] HS = some (.one (.bool true)) := by kernel_rfl
theorem d_sanity : DK 8 [] fun d => d = .bool true := dk_ev (vs := []) trivial rfl rfl san_ev
end Go.Ah

namespace Go.Ah
open Go.Ab Go.Proofs
set_option linter.unusedSimpArgs false
abbrev iD (k : IntKind) (n : Int) : DV := .one (.f (.c (.int k n)))
abbrev strA : FD := .c (.str ⟨#[97]⟩)
def rowV (k : Nat) : FD := .sl 1 k (List.replicate k strA)
theorem wrapM {x q : Nat} (hq : 0 < q) (hx : x < 256) : IntKind.i64.wrap ((x : Int).tmod (q : Int)) = ((x % q : Nat) : Int) := by
 rw [<- Int.ofNat_tmod]
 have : x % q <= x := Nat.mod_le _ _
 exact dwrap oM oM
def rowsV (i k : Nat) : FD := .sl 1 i (List.replicate i (rowV k))
theorem rows_eq (i k : Nat) : rowsV i k = rowsD (List.replicate i (List.replicate k sA)) := by
 simp only [rowsV, rowsD, rowD, rowV, List.map_replicate, List.length_replicate]
theorem dw_E {p : Par} {base rs : Nat} {Q : DEnv -> Bx -> Nat -> Prop} {r : List SOper} {W : Wt} {A : List Nat} {E : DEnv} {S : Bx} {nk : Nat} {E' : DEnv} (he : E = E') (h : DPW p base rs Q r W A E' S nk) : DPW p base rs Q r W A E S nk := he ▸ h
theorem eqB {x y : Bool} (h : x = y) : (if false = true then !(x == y) else (x == y)) = true := by subst h; simp
theorem tmodN {x q : Nat} : (x : Int).tmod (q : Int) = ((x % q : Nat) : Int) := (Int.ofNat_tmod x q).symm
theorem sz_eq (i k : Nat) : (if (if (if decide ((i : Int) >= 1) = true then decide ((i : Int) <= 6) else false) = true then decide ((k : Int) >= 1) else false) = true then decide ((k : Int) <= 4) else false) = (decide (1 <= i) && decide (i <= 6) && decide (1 <= k) && decide (k <= 4)) := by
 simp only [ite_and]
 rw [show decide ((i : Int) >= 1) = decide (1 <= i) from decide_eq_decide.2 (by omega), show decide ((i : Int) <= 6) = decide (i <= 6) from decide_eq_decide.2 (by omega), show decide ((k : Int) >= 1) = decide (1 <= k) from decide_eq_decide.2 (by omega), show decide ((k : Int) <= 4) = decide (k <= 4) from decide_eq_decide.2 (by omega)]
theorem two_eq (k m : Nat) : (decide (1 <= k) && decide (k <= m)) = (if decide ((k : Int) >= 1) = true then decide ((k : Int) <= (m : Int)) else false) := by
 simp only [ite_and]
 rw [show decide ((k : Int) >= 1) = decide (1 <= k) from decide_eq_decide.2 (by omega), show decide ((k : Int) <= (m : Int)) = decide (k <= m) from decide_eq_decide.2 (by omega)]
theorem page_eq (x : Int) : (decide (1 <= x) && decide (x <= 9999)) = (if decide (x >= 1) = true then decide (x <= 9999) else false) := by
 simp only [ite_and]
def size (a b : Nat) : Bool := decide (1 <= a) && decide (a <= 6) && decide (1 <= b) && decide (b <= 4)
abbrev para0 : List FD := nilBlk 1 0 sA (.c .nils) 0
def paraF : Nat -> List FD
 | 0 => []
 | k + 1 => paraF k ++ para0
theorem para_len (k : Nat) : (paraF k).length = k * 10 := by
 induction k with
 | zero => rfl
 | succ k ih => rw [paraF, List.length_append, ih]; show k * 10 + 10 = _; omega
theorem para_all (k : Nat) : All2 NilF (paraF k) ((List.replicate k para).flatMap blkF) := by
 induction k with
 | zero => trivial
 | succ k ih =>
  rw [List.replicate_succ', List.flatMap_append, List.flatMap_cons, List.flatMap_nil, List.append_nil]
  exact all2_app ih (nil_blk (.nil 1))
theorem para_nil (k : Nat) : NilF (.sl 10 k (paraF k)) (.sl 10 (List.replicate k para).length ((List.replicate k para).flatMap blkF)) := by
 rw [List.length_replicate]
 exact NilF.sl2 (para_all k)
def arr (a b c d : Nat) : Bk := .cells [.f (.c (.int .u8 a)), .f (.c (.int .u8 b)), .f (.c (.int .u8 c)), .f (.c (.int .u8 d))]
set_option maxHeartbeats 8000000 in
theorem d_limits {a b c d n : Nat} {page : Int} (ha : a < 256) (hb : b < 256) (hc : c < 256) (hd : d < 256) (hn : n < 256) (hp : -32768 <= page /\ page <= 32767) : DK 7 [.agg [.f (.c (.int .u8 a)), .f (.c (.int .u8 b)), .f (.c (.int .u8 c)), .f (.c (.int .u8 d))], iD .i16 page, iD .u8 n] fun d => d = .bool true := by
 have w9 : IntKind.i64.wrap ((a : Int).tmod 9) = ((a % 9 : Nat) : Int) := wrapM (by decide) ha
 have w6 : IntKind.i64.wrap ((b : Int).tmod 6) = ((b % 6 : Nat) : Int) := wrapM (by decide) hb
 have w43 : IntKind.i64.wrap ((c : Int).tmod 43) = ((c % 43 : Nat) : Int) := wrapM (by decide) hc
 have w6d : IntKind.i64.wrap ((d : Int).tmod 6) = ((d % 6 : Nat) : Int) := wrapM (by decide) hd
 have wpg : IntKind.i64.wrap page = page := dwrap oM oM
 have w103 : IntKind.i64.wrap ((n : Int).tmod 103) = ((n % 103 : Nat) : Int) := wrapM (by decide) hn
 refine dfn_ok cp7 rfl GHro fun Z0 lo => ?_
 refine goD ?_; intros
 refine dw_cf rfl rfl d_sanity ?_
 rintro _ rfl
 refine goD ?_; intros
 refine ds_loop (fun m E S nk => ∃ i : Nat, i + m = a % 9 /\ E = [(1, iD .i16 page), (2, iD .u8 n), (3, .one (.ptr 0 0)), (7, .bool true), (8, .one (.own 1 0 i 1)), (9, strD ⟨#[]⟩), (10, .int i)] /\ S = [(1, .data (List.replicate i (rowV (b % 6)))), (0, arr a b c d)] /\ nk = 2)
  ⟨a % 9, _, _, _, [], ?wk, 0, oM, rfl, rfl, rfl⟩ ?_
 case wk => exact wkA
 rintro m E S nk ⟨i, hi, rfl, rfl, rfl⟩
 refine goD ?_; intros
 refine ds_if rfl (fun hi2 => ?_) (fun hi2 => ?_)
 ·have hi2 := of_decide_eq_true hi2
  rw [w9] at hi2
  refine goD ?_; intros
  refine ds_loop (fun m E S nk => ∃ k : Nat, k + m = b % 6 /\ E = [(1, iD .i16 page), (2, iD .u8 n), (3, .one (.ptr 0 0)), (7, .bool true), (8, .one (.own 1 0 i 1)), (9, strD ⟨#[]⟩), (10, .int i), (11, .one (.own 2 0 k 1)), (12, .int k)] /\ S = [(2, .data (List.replicate k strA)), (1, .data (List.replicate i (rowV (b % 6)))), (0, arr a b c d)] /\ nk = 3)
   ⟨b % 6, _, _, _, [], ?wk, 0, oM, rfl, rfl, rfl⟩ ?_
  case wk => exact wkA
  rintro m2 E S nk ⟨k, hk, rfl, rfl, rfl⟩
  refine goD ?_; intros
  refine ds_if rfl (fun hk2 => ?_) (fun hk2 => ?_)
  ·have hk2 := of_decide_eq_true hk2
   rw [w6] at hk2
   refine goD ?_; intros
   refine dw_app (q := [strA]) rfl rfl rfl (subL_all _ (by simp)) ⟨rfl, rfl, _, rfl, rfl⟩ (by omega) (by omega) (by decide) rfl ?_
   refine goD ?_; intros
   have hdat : List.replicate k strA ++ [strA] = List.replicate (k + 1) strA := List.replicate_succ'.symm
   refine ⟨m2 - 1, oM, _, _, _, [(2, 4)], ?wk, k + 1, oM, rfl, rfl, rfl⟩
   case wk => exact wkA
  ·have hk2 := of_decide_eq_false hk2
   rw [w6] at hk2
   have hk2 : k = b % 6 := by omega
   subst hk2
   have hlr : (List.replicate (b % 6) strA).length = b % 6 * 1 := by simp
   refine ds_frz 2 rfl okZ okZ ?_
   refine goD ?_; intros
   refine dw_app (q := [rowV (b % 6)]) rfl rfl rfl (subL_all _ (by simp)) ⟨rfl, rfl, _, rfl, rfl⟩ (by omega) (by omega) (by decide) rfl ?_
   refine goD ?_; intros
   have hdat : List.replicate i (rowV (b % 6)) ++ [rowV (b % 6)] = List.replicate (i + 1) (rowV (b % 6)) := List.replicate_succ'.symm
   refine ⟨m - 1, oM, _, _, _, [(1, 4)], ?wk, i + 1, oM, rfl, rfl, rfl⟩
   case wk => exact wkA
 ·have hi2 := of_decide_eq_false hi2
  rw [w9] at hi2
  have hi2 : i = a % 9 := by omega
  subst hi2
  have hlq : (List.replicate (a % 9) (rowV (b % 6))).length = a % 9 * 1 := by simp
  refine ds_frz 1 rfl okZ okZ ?_
  refine goD ?_; intros
  refine ds_loop (fun m E S nk => ∃ k : Nat, k + m = c % 43 /\ E = [(1, iD .i16 page), (2, iD .u8 n), (3, .one (.ptr 0 0)), (7, .bool true), (8, .one (.f (rowsV (a % 9) (b % 6)))), (9, strD (bs k))] /\ S = [(0, arr a b c d)] /\ nk = 1)
   ⟨c % 43, _, _, _, [], ?wk, 0, oM, rfl, rfl, rfl⟩ ?_
  case wk => exact wkA
  rintro m2 E S nk ⟨k, hk, rfl, rfl, rfl⟩
  have hks : ((bs k).size : Int) = k := by rw [bs_size]
  refine goD ?_; intros
  refine ds_if (t := decide (((bs k).size : Int) < IntKind.i64.wrap ((c : Int).tmod 43))) rfl (fun hk2 => ?_) (fun hk2 => ?_)
  ·have hk2 := of_decide_eq_true hk2
   rw [w43, hks] at hk2
   refine goD ?_; intros
   refine dw_scat rfl rfl (by rw [bs_size]; show k + 1 <= _; omega) ?_
   refine goD ?_; intros
   refine ⟨m2 - 1, oM, _, _, _, [], ?wk, k + 1, oM, rfl, rfl, rfl⟩
   case wk => exact wkA
  ·have hk2 := of_decide_eq_false hk2
   rw [w43, hks] at hk2
   have hk2 : k = c % 43 := by omega
   subst hk2
   refine goD ?_; intros
   have hcm : c % 43 < 43 := Nat.mod_lt _ (by decide)
   refine dw_keep (SubA.cons (k := 1) rfl (SubA.cons (k := 2) rfl (SubA.cons (k := 3) rfl (SubA.cons (k := 7) rfl (SubA.cons (k := 8) rfl (SubA.cons (k := 9) rfl (SubA.cons (k := 13) rfl (SubA.cons (k := 80) rfl (SubA.nil _))))))))) (SubA.cons (k := 3) rfl (SubA.cons (k := 2) rfl (SubA.cons (k := 1) rfl (SubA.cons (k := 0) rfl (SubA.nil _))))) ?_
   have e13 : (if (if (if decide (((a % 9 : Nat) : Int) >= 1) = true then decide (((a % 9 : Nat) : Int) <= 6) else false) = true then decide ((b : Int).tmod 6 >= 1) else false) = true then decide ((b : Int).tmod 6 <= 4) else false) = size (a % 9) (b % 6) := by
    rw [show (b : Int).tmod 6 = ((b % 6 : Nat) : Int) from tmodN]
    exact sz_eq _ _
   refine dw_E (congrArg (fun x => ([(1, iD .i16 page), (2, iD .u8 n), (3, .one (.ptr 0 0)), (7, .bool true), (8, .one (.f (rowsV (a % 9) (b % 6)))), (9, strD (bs (c % 43))), (13, .bool x), (80, .one (.own 3 0 1 10))] : DEnv)) e13) ?_
   refine dw_frz 1 rfl okZ okZ ?_
   refine dw_c2d 2 rfl rfl ?_
   refine dw_frz 2 rfl okZ okZ ?_
   refine dw_c2d 3 rfl rfl ?_
   refine dw_frz 3 rfl okZ okZ ?_
   refine dw_cf rfl rfl (d_valid1 (kind := 3) (level := 0) (text := ⟨#[]⟩) (rows := [[bs (c % 43)]]) (page := 0) (rowsF := .sl 1 1 [.sl 1 1 [.c (.str (bs (c % 43)))]]) (.refl _) ⟨.inr (.inr (.inl rfl)), fun r hr => by obtain rfl := List.mem_singleton.1 hr; exact (by decide : 1 < 1000000)⟩) ?_
   rintro _ rfl
   rw [valid1 (.inr (.inl rfl)) (fun _ h => by cases h), long_ok _ hcm]
   refine goD ?_; intros
   refine dw_keep (SubA.cons (k := 1) rfl (SubA.cons (k := 2) rfl (SubA.cons (k := 3) rfl (SubA.cons (k := 7) rfl (SubA.cons (k := 8) rfl (SubA.cons (k := 13) rfl (SubA.cons (k := 14) rfl (SubA.cons (k := 96) rfl (SubA.cons (k := 101) rfl (SubA.nil _)))))))))) (SubA.cons (k := 4) rfl (SubA.cons (k := 0) rfl (SubA.nil _))) ?_
   have e14 : (decide (1 <= c % 43) && decide (c % 43 <= 40)) = (if decide (((bs (c % 43)).size : Int) >= 1) = true then decide (((bs (c % 43)).size : Int) <= 40) else false) := by
    rw [bs_size]
    exact two_eq _ _
   refine dw_E (congrArg (fun x => ([(1, iD .i16 page), (2, iD .u8 n), (3, .one (.ptr 0 0)), (7, .bool true), (8, .one (.f (rowsV (a % 9) (b % 6)))), (13, .bool (size (a % 9) (b % 6))), (14, .bool x), (96, .one (.own 4 0 1 10)), (101, .bool (decide ((d : Int).tmod 6 >= 1)))] : DEnv)) (eqB e14)) ?_
   refine dw_frz 4 rfl okZ okZ ?_
   refine dw_cf rfl rfl (d_valid1 (kind := 2) (level := IntKind.i64.wrap ((d : Int).tmod 6)) (text := sA) (rows := []) (page := 0) (rowsF := .c .nils) (.nil 1) ⟨.inr (.inl rfl), fun r hr => by cases hr⟩) ?_
   rintro _ rfl
   rw [valid1 (.inl rfl) (fun _ h => by cases h), w6d, head_ok _ (Nat.mod_lt _ (by decide))]
   refine goD ?_; intros
   refine dw_keep (SubA.cons (k := 1) rfl (SubA.cons (k := 2) rfl (SubA.cons (k := 3) rfl (SubA.cons (k := 7) rfl (SubA.cons (k := 8) rfl (SubA.cons (k := 13) rfl (SubA.cons (k := 14) rfl (SubA.cons (k := 15) rfl (SubA.cons (k := 112) rfl (SubA.nil _)))))))))) (SubA.cons (k := 5) rfl (SubA.cons (k := 0) rfl (SubA.nil _))) ?_
   have e15 : (decide (1 <= d % 6) && decide (d % 6 <= 3)) = (if decide ((d : Int).tmod 6 >= 1) = true then decide ((d : Int).tmod 6 <= 3) else false) := by
    rw [show (d : Int).tmod 6 = ((d % 6 : Nat) : Int) from tmodN]
    exact two_eq _ _
   refine dw_E (congrArg (fun x => ([(1, iD .i16 page), (2, iD .u8 n), (3, .one (.ptr 0 0)), (7, .bool true), (8, .one (.f (rowsV (a % 9) (b % 6)))), (13, .bool (size (a % 9) (b % 6))), (14, .bool true), (15, .bool x), (112, .one (.own 5 0 1 10))] : DEnv)) (eqB e15)) ?_
   refine dw_frz 5 rfl okZ okZ ?_
   refine dw_cf rfl rfl (d_valid1 (kind := 7) (level := 0) (text := ⟨#[]⟩) (rows := []) (page := IntKind.i64.wrap page) (rowsF := .c .nils) (.nil 1) ⟨.inr (.inr (.inr (.inr rfl))), fun r hr => by cases hr⟩) ?_
   rintro _ rfl
   rw [valid1 (.inr (.inr rfl)) (fun h _ => by rw [ink_ok] at h; exact of_decide_eq_true ((Bool.and_eq_true _ _).mp h).1), wpg, ink_ok]
   refine goD ?_; intros
   refine dw_keep (SubA.cons (k := 2) rfl (SubA.cons (k := 7) rfl (SubA.cons (k := 13) rfl (SubA.cons (k := 14) rfl (SubA.cons (k := 15) rfl (SubA.cons (k := 16) rfl (SubA.cons (k := 123) rfl (SubA.nil _)))))))) (SubA.cons (k := 6) rfl (SubA.nil _)) ?_
   refine dw_E (congrArg (fun x => ([(2, iD .u8 n), (7, .bool true), (13, .bool (size (a % 9) (b % 6))), (14, .bool true), (15, .bool true), (16, .bool x), (123, .one (.own 6 0 1 10))] : DEnv)) (eqB (page_eq page))) ?_
   refine dw_frz 6 rfl okZ okZ ?_
   have hb6 : b % 6 < 6 := Nat.mod_lt _ (by decide)
   refine dw_cf rfl rfl (d_valid1 (kind := 3) (level := 0) (text := ⟨#[]⟩) (rows := List.replicate (a % 9) (List.replicate (b % 6) sA)) (page := 0) (rowsF := rowsV (a % 9) (b % 6)) (by rw [rows_eq]; exact .refl _) ⟨.inr (.inr (.inl rfl)), fun r hr => by rw [List.eq_of_mem_replicate hr, List.length_replicate]; omega⟩) ?_
   rintro _ rfl
   rw [valid1 (.inr (.inl rfl)) (fun _ h => by cases h), show rightB (bk 3 0 ⟨#[]⟩ (List.replicate (a % 9) (List.replicate (b % 6) sA)) 0) = size (a % 9) (b % 6) from rows_ok _ (Nat.mod_lt _ (by decide)) _ hb6]
   generalize size (a % 9) (b % 6) = z
   cases z
   all_goals
    refine goD ?_; intros
    refine ds_if (t := false) rfl (fun h => by cases h) (fun _ => ?_)
    refine goD ?_; intros
    refine ds_loop (fun m E S nk => ∃ k : Nat, k + m = n % 103 /\ E = [(2, iD .u8 n), (7, .bool true), (17, .one (.own 0 0 k 10)), (18, .int k)] /\ S = [(0, .data (paraF k))] /\ nk = 1)
     ⟨n % 103, _, _, _, [(0, 7)], ?wk, 0, oM, rfl, rfl, rfl⟩ ?_
    case wk => exact wkA
    rintro m3 E S nk ⟨k, hk, rfl, rfl, rfl⟩
    refine goD ?_; intros
    refine ds_if rfl (fun hk2 => ?_) (fun hk2 => ?_)
    ·have hk2 := of_decide_eq_true hk2
     rw [w103] at hk2
     refine goD ?_; intros
     refine dw_app (q := para0) rfl rfl rfl (subL_all _ (para_len k)) ⟨rfl, rfl, _, rfl, rfl⟩ oM oM (by decide) rfl ?_
     refine goD ?_; intros
     refine ⟨m3 - 1, oM, _, _, _, [(0, 2)], ?wk, k + 1, oM, rfl, rfl, rfl⟩
     case wk => exact wkA
    ·have hk2 := of_decide_eq_false hk2
     rw [w103] at hk2
     have hk2 : k = n % 103 := by omega
     subst hk2
     have hfl := para_len (n % 103)
     refine ds_frz 0 rfl okZ okZ ?_
     refine goD ?_; intros
     refine dw_cf rfl rfl (d_nilF (para_nil (n % 103)) (d_check (R := rightB) (l := List.replicate (n % 103) para) fun q hq => by rw [List.eq_of_mem_replicate hq]; exact d_right ⟨.inl rfl, fun r hr => by cases hr⟩)) ?_
     rintro _ rfl
     rw [paras_ok _ (Nat.mod_lt _ (by decide))]
     by_cases h100 : n % 103 > 100
     ·rw [if_pos h100]
      refine goD ?_; intros
      refine ds_if (t := true) (congrArg (fun z => some (DV.bool z)) (decide_eq_true (show ((n % 103 : Nat) : Int) > 100 by omega))) (fun _ => ?_) (fun h => by cases h)
      refine goD ?_; intros
      exact ds_ret ⟨_, rfl, rfl, rfl⟩
     ·rw [if_neg h100]
      refine goD ?_; intros
      refine ds_if (t := false) (congrArg (fun z => some (DV.bool z)) (decide_eq_false (show ¬ ((n % 103 : Nat) : Int) > 100 by omega))) (fun h => by cases h) (fun _ => ?_)
      refine goD ?_; intros
      exact ds_ret ⟨_, rfl, rfl, rfl⟩
end Go.Ah

namespace Go.Ah
open Go.Ab Go.Proofs
theorem wf_u8 {n : Int} (h : (Lit.int .u8 n).wf = true) : ∃ m : Nat, n = m /\ m < 256 := by
 simp [Lit.wf, IntKind.min, IntKind.max, IntKind.signed, IntKind.bits] at h
 exact ⟨n.toNat, oM, oM⟩
theorem wf_i16 {n : Int} (h : (Lit.int .i16 n).wf = true) : -32768 <= n /\ n <= 32767 := by
 simp [Lit.wf, IntKind.min, IntKind.max, IntKind.signed, IntKind.bits] at h
 omega
def a4 : Ty := .agg (.pair (.int .u8) (.pair (.int .u8) (.pair (.int .u8) (.pair (.int .u8) .unit))))
theorem limits_law {w : a4.den} {page n : Int} (h : okA [a4, .int .i16, .int .u8] (w, page, n, ())) : DK 7 (DA [a4, .int .i16, .int .u8] (w, page, n, ())) fun d => d = .bool true := by
 obtain ⟨⟨h1, h2, h3, h4, _⟩, h5, h6, _⟩ := h
 obtain ⟨w1, w2, w3, w4, u⟩ := w
 obtain ⟨a, e1, ha⟩ := wf_u8 h1
 obtain ⟨b, e2, hb⟩ := wf_u8 h2
 obtain ⟨c, e3, hc⟩ := wf_u8 h3
 obtain ⟨d, e4, hd⟩ := wf_u8 h4
 obtain ⟨m, e6, hm⟩ := wf_u8 h6
 simp only at e1 e2 e3 e4 e6
 subst e1 e2 e3 e4 e6
 exact d_limits ha hb hc hd hm (wf_i16 h5)
end Go.Ah
