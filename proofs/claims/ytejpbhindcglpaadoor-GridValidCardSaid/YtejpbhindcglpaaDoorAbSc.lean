/- The sanity of law 12, beside any memory. -/
import Derived.Test.YtejpbhindcglpaaDoorAbSan2
import Derived.Test.YtejpbhindcglpaaDoorAbTk
namespace Go.Ab.Fn
open Go.Ab Go.Proofs
theorem mix : Tryd.prog.follows .mixedOrders = true := Tryd.checked.mixed
theorem sanity_ok {H : Hp} (h0 : H.get 0 = some offs) : ACalls Tryd.prog 1 10 [] H fun v H' => v = .bool true ∧ H' = H := by
  have hg : ∀ b bk, (H00 5).get b = some bk → b = 0 ∧ bk = offs := by
    intro b bk h
    by_cases hb : b = 0
    · subst hb; exact ⟨rfl, (Option.some.inj h).symm⟩
    · simp [Hp.get, H00, T.get_nd, hb] at h
  refine (ACalls.sub (H := H) (evVal_ok mix tabOk san) rfl (by decide) (fun b bk h => ?_) (fun b bk h => ?_) (fun v _ h => by rw [h]; rfl)).mono fun v H' ⟨⟨_, h⟩, e⟩ => ⟨h, e⟩
  · rw [(hg b bk h).1]; decide
  · obtain ⟨rfl, rfl⟩ := hg b bk h
    refine ⟨h0, rfl, fun i c hc => ?_⟩
    simp only [offs, B.cell] at hc
    split at hc
    · rename_i hi
      simp only [T.get_lf, Option.getD_none, Option.some.injEq] at hc
      have : ∀ j, j < 12 → (List.getD [C.int IntKind.i64 0, .int .i64 0, .int .i64 0, .int .i64 1, .int .i64 0, .int .i64 2, .int .i64 1, .int .i64 0, .int .i64 1, .int .i64 1, .int .i64 1, .int .i64 2] j .nilp).closed = true := by decide
      rw [← hc]
      exact this _ (Nat.mod_lt _ (by decide))
    · cases hc
end Go.Ab.Fn
