/- A law's row out of its abstract contract. -/
import Derived.Test.YtejpbhindcglpaaDoorAbIo
namespace Go.Ab
open Go.RowKit Go.WideShapes Go.ChangeShapes

section
variable {X : Type} {enc : TypeId × Value → X} {P : Program} {G : Nat}

def denL : List Ty → Type
  | [] => Unit
  | t :: ts => t.den × denL ts
/-- the arguments, in plain words -/
def RA (H : Hp) : (ts : List Ty) → denL ts → List V → Prop
  | [], _, vs => vs = []
  | t :: ts, x, vs => ∃ l vs', vs = argV t l :: vs' ∧ t.R H (Prod.fst x) l ∧ RA H ts (Prod.snd x) vs'
theorem RA.le {H H' : Hp} (h : Le H H') : ∀ {ts : List Ty} {x : denL ts} {vs : List V}, RA H ts x vs → RA H' ts x vs
  | [], _, _, hh => hh
  | t :: _, _, _, ⟨l, vs', e, h1, h2⟩ => ⟨l, vs', e, Ty.R_le h t _ _ h1, RA.le h h2⟩
theorem layArgs_dec : ∀ {ts : List Ty} {ds : List (DataW X)} {H H' : Hp} {vs : List V}, WF H → layArgs ts ds H = some (vs, H') → WF H' ∧ Ext H H' ∧ ∃ x : denL ts, RA H' ts x vs
  | [], [], H, H', vs, hw, h => by
    simp only [layArgs, Option.some.injEq, Prod.mk.injEq] at h
    obtain ⟨rfl, rfl⟩ := h
    exact ⟨hw, Ext.refl _, (), rfl⟩
  | t :: ts, d :: ds, H, H', vs, hw, h => by
    simp only [layArgs] at h
    split at h
    case h_2 => cases h
    case h_1 l H1 h1 =>
      split at h
      case h_2 => cases h
      case h_1 vs' H2 h2 =>
        obtain ⟨rfl, rfl⟩ := Prod.mk.inj (Option.some.inj h)
        obtain ⟨w1, e1, x1, r1⟩ := lay_dec t hw h1
        obtain ⟨w2, e2, x2, r2⟩ := layArgs_dec w1 h2
        exact ⟨w2, e1.trans e2, (x1, x2), l, vs', rfl, Ty.R_le e2.le _ _ _ r1, r2⟩
  | [], _ :: _, _, _, _, _, h => by simp [layArgs] at h
  | _ :: _, [], _, _, _, _, h => by simp [layArgs] at h

theorem trodAll_stays {W W' : World} (hl : laidOutB P = true) (hb : Below W.heap.size W W') {sp : Nat → Bool} : ∀ {ts : List TypeId} {vs : List Value} {ds : List (DataW X)} {ps : List MemPlace}, (ts.all fun t => P.readableRec t && decide (t < P.types.size)) = true →
    DataW.TrodAll enc P W 0 (fun _ => true) true ts vs ds ps → (∀ p ∈ ps, p.block < W.heap.size ∧ sp p.block = true) → DataW.TrodAll enc P W' 0 sp true ts vs ds ps
  | [], [], [], _, _, h, _ => h
  | t :: ts, v :: vs, d :: ds, ps, hr, h, hp => by
    obtain ⟨p, q, h1, h2, rfl⟩ := h
    simp only [List.all_cons, Bool.and_eq_true, decide_eq_true_eq] at hr
    refine ⟨p, q, WideElems.Trod_stays hl hr.1.1 hr.1.2 h1 (fun x hx => hb.same (hp x (by simp [hx])).1) (fun x hx => (hp x (by simp [hx])).2), trodAll_stays hl hb (by simpa using hr.2) h2 (fun x hx => hp x (by simp [hx])), rfl⟩
  | [], _ :: _, _, _, _, h, _ => by cases h
  | [], [], _ :: _, _, _, h, _ => by cases h
  | _ :: _, [], _, _, _, h, _ => by cases h
  | _ :: _, _ :: _, [], _, _, h, _ => by cases h

/-- THE ROW'S CONTRACT OUT OF THE ABSTRACT ONE. -/
theorem law_contract {f : FuncId} {fn : Func} {s : ChangeSpec} {laid : List (String × DataW Unit)} {n : Nat} {Ts : List Ty} {H0 : Hp} {tb : TypeId} {r : Reach}
    (hl : laidOutB P = true) (hrd : (fn.params.toList.all fun t => P.readableRec t && decide (t < P.types.size)) = true) (hds : descs P n fn.params.toList = some Ts) (hvars : s.vars = []) (hres : fn.resultTypes = #[tb]) (htb : P.underlying tb = some .bool)
    (hspec : ∀ ds : List (DataW X), ds.length = fn.params.toList.length → s.fn X ds = { results := [.lit (.bool true)], args := ds })
    (hH0 : layLaid P n G laid ⟨.lf, G⟩ = H0)
    (W : World) (base : Nat) (args : Array Value) (ds gs : List (DataW X)) (before : List MemPlace)
    (hlaw : ∀ (H : Hp) (x : denL Ts) (vs : List V), WF H → Ext H0 H → NoMut H → RA H Ts x vs → layArgs Ts ds H0 = some (vs, H) → ACalls P G f vs H fun v _ => v = .bool true)
    (hval : ∀ (j : Nat) t v, fn.params[j]? = some t → args[j]? = some v → Value.okWide P W r base t v)
    (hW : DataW.Whole enc P fn.params.toList s.vars false W args.toList ds gs before) (hL : laidMet P laid W) :
    Calls P f args W fun e W' => ∃ v, e = .returned v ∧ s.post enc P fn false true false false W args v W' := by
  have hW0 := hW
  obtain ⟨p, q, hA, hV, rfl, hfz, hnd⟩ := hW
  rw [hvars] at hV
  obtain ⟨rfl, rfl⟩ := trodVars_none hV
  obtain ⟨ps, hlv, _⟩ := hL
  obtain ⟨μ1, K1, R1, N1⟩ := laid_ok (n := n) hlv (start_rel (G := G) W) (fun _ _ h => by cases h) (fun _ _ => rfl)
  rw [hH0] at R1 N1
  obtain ⟨as, H, μ2, K2, e2, R2, a2, g2⟩ := args_ok hds hA (fun j t v hj hj' => hval j t v (by simpa using hj) (by simpa using hj')) R1 N1
  obtain ⟨w2, x2, x, rx⟩ := layArgs_dec R1.lt' e2
  have N2 := g2.noMut N1
  have hlen : ds.length = fn.params.toList.length := by
    have : ∀ {ts : List TypeId} {vs : List Value} {ds : List (DataW X)} {ps : List MemPlace}, DataW.TrodAll enc P W 0 (fun _ => true) true ts vs ds ps → ds.length = ts.length := by
      intro ts
      induction ts with
      | nil => intro vs ds ps h; cases vs <;> cases ds <;> simp_all [DataW.TrodAll]
      | cons t ts ih =>
        intro vs ds ps h
        cases vs with
        | nil => cases h
        | cons v vs =>
          cases ds with
          | nil => cases h
          | cons d ds => obtain ⟨_, _, _, h2, _⟩ := h; simp [ih h2]
    exact this hA
  have key := hlaw H x as w2 x2 N2 rx e2 μ2 K2 W args.toList R2 a2
  rw [Array.toArray_toList] at key
  refine key.mono ?_
  rintro e W' ⟨y, rfl, v, H', μ', K', rfl, h2, h3, h4⟩
  obtain rfl : y = .bool true := h2
  have hb : Below W.heap.size W W' := ⟨h4.same.1, h4.same.2.1, h4.same.2.2, h4.size, fun k hk => h4.keep k hk fun b bk hb hm => by rw [N2 b bk hb] at hm; cases hm⟩
  have hlt : ∀ x ∈ p, x.block < W.heap.size := fun x hx => hW0.lt x (by simp [hx])
  have hsp := hspec ds hlen
  refine ⟨_, rfl, ds, [], p ++ [], [], p, [], hW0, ?_, ?_, ?_, World.keptBut_mono (fun z hz => ⟨hz, .inr (.inl (by simpa using hz))⟩) (hb.frame (· ∈ p ++ [])), fun h => (by cases h)⟩
  · rw [List.append_nil, hsp, hres]
    exact ⟨[], [], shut_bool htb true, rfl, rfl⟩
  · rw [List.append_nil, hsp]
    exact trodAll_stays hl hb hrd hA fun z hz => ⟨hlt z hz, by simpa using hlt z hz⟩
  · rw [List.append_nil, hsp, hvars]
    rfl
end
end Go.Ab
