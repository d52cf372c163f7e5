/- Tables of functions. -/
import Derived.Test.YtejpbhindcglpaaDoorAbRo
namespace Go.Ab
namespace T
variable {α : Type}
def list : T α → List (Nat × α)
  | lf => []
  | nd v l r => (match v with | some x => [(0, x)] | none => []) ++ (l.list.map (fun p => (2 * p.1 + 1, p.2)) ++ r.list.map (fun p => (2 * p.1 + 2, p.2)))
theorem mem_list : ∀ (t : T α) (n : Nat) (x : α), t.get n = some x → (n, x) ∈ t.list
  | lf, _, _, h => by cases h
  | nd v l r, n, x, h => by
    rw [get_nd] at h
    simp only [list, List.mem_append, List.mem_map]
    split at h
    · rename_i e
      subst e; subst h
      exact .inl (by simp)
    · split at h
      · exact .inr (.inl ⟨(n / 2, x), mem_list l _ _ h, by simp; omega⟩)
      · exact .inr (.inr ⟨(n / 2 - 1, x), mem_list r _ _ h, by simp; omega⟩)
end T
theorem tabOk_of {P : Program} {G : Nat} {t : T SFn} (h : ∀ e ∈ t.list, cpFn P G e.1 = some e.2 ∧ isFn P e.1 = true) : TabOk P G t.get := fun f sf hf => h (f, sf) (T.mem_list t f sf hf)
end Go.Ab
