/- append. -/
import Derived.Test.YtejpbhindcglpaaDoorAbE
namespace Go.Ab
section
variable {P : Program} {G n : Nat} {μ : Nat → Pl} {K : Nat → Prop} {H H' : Hp} {w : World} {F : T V} {a : Act}

theorem run_append_fits {t t' e e' : TypeId} {ty : TypeId} {i : TypeInfo} (ht : P.underlying t = some (.slice e)) (ht' : P.underlying t' = some (.slice e')) (hi : P.info? e = some i)
    {base : Option Addr} {sl sc m : Nat} {x : Value} {news : Array Value} (hl : (Builtin.lenOf x).run P w = .ok m w) (hn : (Builtin.firstCells i.size m x).run P w = .ok news w) (hfit : sl + m ≤ sc) :
    (Builtin.append_ #[t, t'] ty #[.slice base sl sc, x]).run P w =
      (match base with
       | some ad => ((storeCells (ad.add (sl * i.size)) news.toList).run P w).andThen fun _ w' => .ok (.slice base (sl + m) sc) w'
       | none => .ok (.slice base (sl + m) sc) w) := by
  cases base <;> simp [Builtin.append_, run_underlying ht, run_underlying ht', sizeOf, typeInfo, hi, hl, hn, hfit]

theorem run_append_grows {t t' e e' : TypeId} {ty : TypeId} {i : TypeInfo} {z : Value} (ht : P.underlying t = some (.slice e)) (ht' : P.underlying t' = some (.slice e')) (hi : P.info? e = some i) (hz : i.zero = some z) (hzs : z.cells.size = i.size)
    {base : Option Addr} {sl sc m : Nat} {x : Value} {olds news : Array Value} (hl : (Builtin.lenOf x).run P w = .ok m w) (hn : ∀ d, (Builtin.firstCells i.size m x).run P { w with drawn := d } = .ok news { w with drawn := d })
    (ho : ∀ d, (Builtin.firstCells i.size sl (.slice base sl sc)).run P { w with drawn := d } = .ok olds { w with drawn := d })
    (hg : sc < sl + m) (hb : (sl + m) * i.bytes ≤ 140737488355328) (h63 : sl + m < 4611686018427387904) :
    ∃ nc rest d, sl + m ≤ nc ∧ rest.size = (nc - (sl + m)) * i.size ∧ (Builtin.append_ #[t, t'] ty #[.slice base sl sc, x]).run P w =
      .ok (.slice (some ⟨w.heap.size, 0, none⟩) (sl + m) nc) { w with drawn := d, heap := w.heap.push (.cells (olds ++ news ++ rest) e) } := by
  have hcap := growslice_fits hg hb
  have hnc : sl + m ≤ (Question.appendCap (sl + m) sc e).cut (w.tape w.drawn (.appendCap (sl + m) sc e)) := by simp [Question.cut]
  refine ⟨_, Builtin.zeroCells z.cells ((Question.appendCap (sl + m) sc e).cut (w.tape w.drawn (.appendCap (sl + m) sc e)) - (sl + m)), w.drawn + 1, hnc, by simp [Builtin.zeroCells, hzs], ?_⟩
  have hmax : ¬ (((sl + m : Nat) : Int) > IntKind.i64.max) := by simp [IntKind.max, IntKind.signed, IntKind.bits]; omega
  have hnot : ¬ (Builtin.nextslicecap (sl + m) sc * i.bytes > 2 ^ 48) := by omega
  have hnf : ¬ (sl + m ≤ sc) := by omega
  have hz' : ∀ d, (zeroValue e).run P { w with drawn := d } = .ok z { w with drawn := d } := by intro d; simp [zeroValue, typeInfo, hi, hz]
  have hmax' : ¬ (((sl : Int) + (m : Int)) > IntKind.i64.max) := by simpa using hmax
  simp only [Builtin.append_, List.getElem?_toArray, List.getElem?_cons_zero, List.getElem?_cons_succ, Sem.run_bind, run_underlying ht, run_underlying ht', Result.andThen_ok, sizeOf, typeInfo, run_program, hi, Sem.run_pure, Bool.false_eq_true, if_false, hl, hnf, hnot]
  simp only [Sem.run_ite, Sem.run_bind, Sem.run_pure, run_program, hi, hmax, false_and, if_false, Result.andThen_ok, hnot, run_choose, Question.forced, Bool.false_eq_true, run_askRoom, ho, hn, Bool.not_false, if_true, hz', newRow, run_newObj]
end
end Go.Ab
