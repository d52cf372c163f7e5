/- The abstract values, heaps and operations, and how they relate to the model's worlds. -/
import Derived.Test.YtejpbhindcglpaaDoorAbT
namespace Go.Ab

/-- The values of one cell. Addresses name abstract blocks. A slice bears the cells of an element, and whether its capacity is exact (else it is a lower bound). -/
inductive C where
  | bool (b : Bool)
  | int (k : IntKind) (n : Int)
  | str (s : ByteArray)
  | ptr (b o : Nat)
  | nilp
  | slc (b o len cap esz : Nat) (ex : Bool)
  | nils
  | map (b : Nat)
  | nilm
  | fn (f : FuncId) (caps : List (Nat × Nat))
  | nilf

inductive V where
  | one (c : C)
  | agg (l : List C)
  | tup (l : List V)

abbrev V.undef : V := .tup []
abbrev V.bool (b : Bool) : V := .one (.bool b)
abbrev V.int (n : Int) : V := .one (.int .i64 n)

def V.cells : V → List C
  | .one c => [c]
  | .agg l => l
  | .tup _ => []

inductive B where
  | row (n : Nat) (z : List C) (m : T C) (rw : Bool)
  | mp (es : List (V × V))

def B.cell : B → Nat → Option C
  | .row n z m _, i => if i < n then some ((m.get i).getD (z.getD (i % z.length) .nilp)) else none
  | .mp _, _ => none
def B.mut : B → Bool
  | .row _ _ _ rw => rw
  | .mp _ => true

structure Hp where
  m : T B
  nx : Nat

namespace Hp
def get (H : Hp) (b : Nat) : Option B := H.m.get b
def cell (H : Hp) (b i : Nat) : Option C := (H.get b).bind (·.cell i)
def add (H : Hp) (b : Nat) (x : B) : Hp := ⟨H.m.set b (some x), H.nx⟩
def del (H : Hp) (b : Nat) : Hp := ⟨H.m.set b none, H.nx⟩
def push (H : Hp) (x : B) : Hp := ⟨H.m.set H.nx (some x), H.nx + 1⟩
def skip (H : Hp) (n : Nat) : Hp := ⟨H.m, H.nx + n⟩
def store (H : Hp) (b i : Nat) (c : C) : Option Hp :=
  match H.get b with
  | some (.row n z m true) => if i < n then some (H.add b (.row n z (m.set i (some c)) true)) else none
  | _ => none
def loads (H : Hp) (b o : Nat) : Nat → Option (List C)
  | 0 => some []
  | n + 1 => match H.cell b o with
    | none => none
    | some c => match H.loads b (o + 1) n with
      | none => none
      | some l => some (c :: l)
def stores (H : Hp) (b o : Nat) : List C → Option Hp
  | [] => some H
  | c :: l => match H.store b o c with
    | none => none
    | some H' => H'.stores b (o + 1) l
end Hp

/-- Where an abstract block lies: the model's block, the offset of its first cell, and how many cells that block has. -/
structure Pl where
  blk : Nat
  off : Nat
  size : Nat

def Pl.addr (p : Pl) (o : Nat) : Addr := ⟨p.blk, p.off + o, none⟩

def All2 {α β : Type} (R : α → β → Prop) : List α → List β → Prop
  | [], [] => True
  | a :: l, b :: m => R a b ∧ All2 R l m
  | _, _ => False

def RC (μ : Nat → Pl) (K : Nat → Prop) : C → Value → Prop
  | .bool b, x => x = .bool b
  | .int k n, x => x = .int k n
  | .str s, x => x = .string s
  | .ptr b o, x => K b ∧ x = .pointer (some ((μ b).addr o))
  | .nilp, x => x = .pointer none
  | .slc b o len cap esz ex, x => K b ∧ ∃ a c, x = .slice (some a) len c ∧ len ≤ cap ∧ cap ≤ c ∧ (ex = true → c = cap) ∧
      (c = 0 ∨ (a = (μ b).addr o ∧ (μ b).off + o + c * esz ≤ (μ b).size))
  | .nils, x => x = .slice none 0 0
  | .map b, x => K b ∧ x = .map (some (μ b).blk)
  | .nilm, x => x = .map none
  | .fn f caps, x => (∀ p ∈ caps, K p.1) ∧ x = .func (.func f) #[] (caps.map fun p => Value.pointer (some ((μ p.1).addr p.2))).toArray
  | .nilf, x => x = .nilFunc

/-- A value that is no tuple. -/
def RV1 (μ : Nat → Pl) (K : Nat → Prop) : V → Value → Prop
  | .one c, x => RC μ K c x
  | .agg l, x => ∃ xs : List Value, x = .agg xs.toArray ∧ All2 (RC μ K) l xs
  | .tup _, _ => False

def RV (μ : Nat → Pl) (K : Nat → Prop) : V → Value → Prop
  | .tup l, x => ∃ xs : List Value, x = .tuple xs.toArray ∧ All2 (RV1 μ K) l xs
  | v, x => RV1 μ K v x

def RB (μ : Nat → Pl) (K : Nat → Prop) (p : Pl) (bk : B) (o : Option Obj) : Prop :=
  match bk with
  | .row n z m rw => ∃ cs t fz, o = some (.cells cs t fz) ∧ cs.size = p.size ∧ p.off + n ≤ cs.size ∧ (rw = true → fz = (0, 0)) ∧
      ∀ i c, (B.row n z m rw).cell i = some c → ∃ x, cs[p.off + i]? = some x ∧ RC μ K c x
  | .mp es => ∃ ces clk, o = some (.map ces clk) ∧ All2 (fun (e : V × V) (x : MapEntry) => RV1 μ K e.1 x.key ∧ RV1 μ K e.2 x.val) es ces.toList

structure Rel (G : Nat) (μ : Nat → Pl) (K : Nat → Prop) (H : Hp) (w : World) : Prop where
  dom : ∀ b bk, H.get b = some bk → K b
  lt : ∀ b, K b → b < H.nx
  blk : ∀ b bk, H.get b = some bk → RB μ K (μ b) bk w.heap[(μ b).blk]?
  inj : ∀ b b' bk bk', H.get b = some bk → H.get b' = some bk' → bk.mut = true → (μ b).blk = (μ b').blk → b = b'
  glob : ∀ g, g < G → K g ∧ (μ g).blk = g ∧ (μ g).off = 0

structure Fr (μ : Nat → Pl) (K : Nat → Prop) (H : Hp) (w : World) (μ' : Nat → Pl) (K' : Nat → Prop) (H' : Hp) (w' : World) : Prop where
  same : w'.os = w.os ∧ w'.tape = w.tape ∧ w'.output = w.output
  size : w.heap.size ≤ w'.heap.size
  keep : ∀ i, i < w.heap.size → (∀ b bk, H.get b = some bk → bk.mut = true → (μ b).blk ≠ i) → w'.heap[i]? = w.heap[i]?
  img : ∀ b bk, H'.get b = some bk → bk.mut = true → (∃ b0 bk0, H.get b0 = some bk0 ∧ bk0.mut = true ∧ (μ b0).blk = (μ' b).blk) ∨ w.heap.size ≤ (μ' b).blk
  newmut : ∀ b bk, H.nx ≤ b → H'.get b = some bk → bk.mut = true
  mu : ∀ b, K b → μ' b = μ b
  kk : ∀ b, K b → K' b
  knew : ∀ b, b < H.nx → K' b → K b
  nx : H.nx ≤ H'.nx
  none : ∀ b, b < H.nx → H.get b = none → H'.get b = none
  stay : ∀ b bk bk', H.get b = some bk → H'.get b = some bk' → bk'.mut = bk.mut
  ro : ∀ b bk, H.get b = some bk → bk.mut = false → H'.get b = some bk

section
variable {α β : Type} {R R' : α → β → Prop}
theorem All2.mono (h : ∀ a b, R a b → R' a b) : ∀ {l : List α} {m : List β}, All2 R l m → All2 R' l m
  | [], [], _ => trivial
  | _ :: _, _ :: _, hh => ⟨h _ _ hh.1, All2.mono h hh.2⟩
  | [], _ :: _, hh => hh.elim
  | _ :: _, [], hh => hh.elim
theorem All2.len : ∀ {l : List α} {m : List β}, All2 R l m → l.length = m.length
  | [], [], _ => rfl
  | _ :: _, _ :: _, hh => by simp [All2.len hh.2]
  | [], _ :: _, hh => hh.elim
  | _ :: _, [], hh => hh.elim
theorem All2.at : ∀ {l : List α} {m : List β}, All2 R l m → ∀ (i : Nat) (a : α), l[i]? = some a → ∃ b, m[i]? = some b ∧ R a b
  | [], [], _, _, _, h => by simp at h
  | _ :: _, b :: _, hh, 0, _, h => by
    simp at h; subst h; exact ⟨b, rfl, hh.1⟩
  | _ :: _, _ :: _, hh, i + 1, a, h => by
    simp at h
    obtain ⟨b, hb, hr⟩ := All2.at hh.2 i a h
    exact ⟨b, by simpa using hb, hr⟩
  | [], _ :: _, hh, _, _, _ => hh.elim
  | _ :: _, [], hh, _, _, _ => hh.elim
theorem All2.at' {l : List α} {m : List β} (h : All2 R l m) (i : Nat) (b : β) (hb : m[i]? = some b) : ∃ a, l[i]? = some a ∧ R a b := by
  have hl := h.len
  have hi : i < m.length := (List.getElem?_eq_some_iff.1 hb).1
  obtain ⟨b', hb', hr⟩ := h.at i l[i] (List.getElem?_eq_getElem (by omega))
  rw [hb] at hb'
  obtain rfl := Option.some.inj hb'
  exact ⟨_, List.getElem?_eq_getElem (by omega), hr⟩
theorem All2.mk : ∀ {l : List α} {m : List β}, l.length = m.length → (∀ (i : Nat) a b, l[i]? = some a → m[i]? = some b → R a b) → All2 R l m
  | [], [], _, _ => trivial
  | a :: l, b :: m, hl, h => ⟨h 0 a b rfl rfl, All2.mk (by simpa using hl) fun i a b ha hb => h (i + 1) a b (by simpa using ha) (by simpa using hb)⟩
  | [], _ :: _, hl, _ => by simp at hl
  | _ :: _, [], hl, _ => by simp at hl
theorem All2.append : ∀ {l : List α} {m : List β} {l' : List α} {m' : List β}, All2 R l m → All2 R l' m' → All2 R (l ++ l') (m ++ m')
  | [], [], _, _, _, h => h
  | _ :: _, _ :: _, _, _, hh, h => ⟨hh.1, All2.append hh.2 h⟩
  | [], _ :: _, _, _, hh, _ => hh.elim
  | _ :: _, [], _, _, hh, _ => hh.elim
theorem All2.take {l : List α} {m : List β} (h : All2 R l m) (n : Nat) : All2 R (l.take n) (m.take n) := by
  refine All2.mk (by simp [h.len]) fun i a b ha hb => ?_
  rw [List.getElem?_take] at ha hb
  split at ha
  · rename_i hi
    rw [if_pos hi] at hb
    obtain ⟨b', hb', hr⟩ := h.at i a ha
    rw [hb] at hb'; obtain rfl := Option.some.inj hb'; exact hr
  · simp at ha
theorem All2.drop {l : List α} {m : List β} (h : All2 R l m) (n : Nat) : All2 R (l.drop n) (m.drop n) := by
  refine All2.mk (by simp [h.len]) fun i a b ha hb => ?_
  rw [List.getElem?_drop] at ha hb
  obtain ⟨b', hb', hr⟩ := h.at _ a ha
  rw [hb] at hb'; obtain rfl := Option.some.inj hb'; exact hr
theorem All2.map {γ δ : Type} {S : γ → δ → Prop} (f : α → γ) (g : β → δ) (hfg : ∀ a b, R a b → S (f a) (g b)) : ∀ {l : List α} {m : List β}, All2 R l m → All2 S (l.map f) (m.map g)
  | [], [], _ => trivial
  | _ :: _, _ :: _, hh => ⟨hfg _ _ hh.1, All2.map f g hfg hh.2⟩
  | [], _ :: _, hh => hh.elim
  | _ :: _, [], hh => hh.elim
end

section
variable {μ μ' : Nat → Pl} {K K' : Nat → Prop}
theorem RC.mono (hK : ∀ b, K b → K' b) (hμ : ∀ b, K b → μ' b = μ b) {c : C} {x : Value} (h : RC μ K c x) : RC μ' K' c x := by
  cases c with
  | bool b => exact h
  | int k n => exact h
  | str s => exact h
  | ptr b o => exact ⟨hK _ h.1, by rw [hμ b h.1]; exact h.2⟩
  | nilp => exact h
  | slc b o len cap esz ex =>
    obtain ⟨hb, a, c, hx, h1, h2, h3, h4⟩ := h
    exact ⟨hK _ hb, a, c, hx, h1, h2, h3, by rw [hμ b hb]; exact h4⟩
  | nils => exact h
  | map b => exact ⟨hK _ h.1, by rw [hμ b h.1]; exact h.2⟩
  | nilm => exact h
  | fn f caps =>
    refine ⟨fun p hp => hK _ (h.1 p hp), ?_⟩
    rw [h.2]
    congr 2
    exact List.map_congr_left fun p hp => by rw [hμ p.1 (h.1 p hp)]
  | nilf => exact h
theorem RV1.mono (hK : ∀ b, K b → K' b) (hμ : ∀ b, K b → μ' b = μ b) {v : V} {x : Value} (h : RV1 μ K v x) : RV1 μ' K' v x := by
  cases v with
  | one c => exact RC.mono hK hμ h
  | agg l => obtain ⟨xs, hx, ha⟩ := h; exact ⟨xs, hx, ha.mono fun _ _ => RC.mono hK hμ⟩
  | tup l => exact h.elim
theorem RV.mono (hK : ∀ b, K b → K' b) (hμ : ∀ b, K b → μ' b = μ b) {v : V} {x : Value} (h : RV μ K v x) : RV μ' K' v x := by
  cases v with
  | one c => exact RV1.mono (v := .one c) hK hμ h
  | agg l => exact RV1.mono (v := .agg l) hK hμ h
  | tup l => obtain ⟨xs, hx, ha⟩ := h; exact ⟨xs, hx, ha.mono fun _ _ => RV1.mono hK hμ⟩
theorem RV.of1 {v : V} {x : Value} (h : RV1 μ K v x) : RV μ K v x := by
  cases v with
  | one c => exact h
  | agg l => exact h
  | tup l => exact h.elim
theorem RV.undef : RV μ K V.undef (.tuple #[]) := ⟨[], rfl, trivial⟩
theorem RB.mono {p : Pl} {bk : B} {o : Option Obj} (hK : ∀ b, K b → K' b) (hμ : ∀ b, K b → μ' b = μ b) (h : RB μ K p bk o) : RB μ' K' p bk o := by
  cases bk with
  | row n z m rw =>
    obtain ⟨cs, t, fz, h1, h2, h3, h4, h5⟩ := h
    exact ⟨cs, t, fz, h1, h2, h3, h4, fun i c hc => by
      obtain ⟨x, hx, hr⟩ := h5 i c hc
      exact ⟨x, hx, hr.mono hK hμ⟩⟩
  | mp es =>
    obtain ⟨ces, clk, h1, h2⟩ := h
    exact ⟨ces, clk, h1, h2.mono fun _ _ hh => ⟨hh.1.mono hK hμ, hh.2.mono hK hμ⟩⟩
/-- the cells of a value -/
theorem RV1.cells {v : V} {x : Value} (h : RV1 μ K v x) : All2 (RC μ K) v.cells x.cells.toList := by
  cases v with
  | one c =>
    have h' : RC μ K c x := h
    have : x.cells = #[x] := by
      cases c <;> simp only [RC] at h'
      all_goals first
        | (obtain ⟨_, a, c, rfl, _⟩ := h'; rfl)
        | (obtain ⟨_, rfl⟩ := h'; rfl)
        | (subst h'; rfl)
    rw [this]
    exact ⟨h', trivial⟩
  | agg l => obtain ⟨xs, rfl, ha⟩ := h; simpa [V.cells, Value.cells] using ha
  | tup l => exact h.elim
end

namespace Hp
@[simp] theorem get_add_self (H : Hp) (b : Nat) (x : B) : (H.add b x).get b = some x := by simp [get, add]
theorem get_add_ne (H : Hp) {b c : Nat} (x : B) (h : c ≠ b) : (H.add b x).get c = H.get c := by simp [get, add, T.get_set_ne _ _ h]
theorem get_add (H : Hp) (b c : Nat) (x : B) : (H.add b x).get c = if c = b then some x else H.get c := by simp [get, add, T.get_set]
theorem get_del (H : Hp) (b c : Nat) : (H.del b).get c = if c = b then none else H.get c := by simp [get, del, T.get_set]
theorem get_push (H : Hp) (c : Nat) (x : B) : (H.push x).get c = if c = H.nx then some x else H.get c := by simp [get, push, T.get_set]
@[simp] theorem get_skip (H : Hp) (n c : Nat) : (H.skip n).get c = H.get c := rfl
@[simp] theorem nx_add (H : Hp) (b : Nat) (x : B) : (H.add b x).nx = H.nx := rfl
@[simp] theorem nx_del (H : Hp) (b : Nat) : (H.del b).nx = H.nx := rfl
@[simp] theorem nx_push (H : Hp) (x : B) : (H.push x).nx = H.nx + 1 := rfl
@[simp] theorem nx_skip (H : Hp) (n : Nat) : (H.skip n).nx = H.nx + n := rfl
end Hp

theorem Fr.refl {G : Nat} {μ : Nat → Pl} {K : Nat → Prop} {H : Hp} {w : World} (hR : Rel G μ K H w) : Fr μ K H w μ K H w :=
  ⟨⟨rfl, rfl, rfl⟩, Nat.le_refl _, fun _ _ _ => rfl, fun b bk h hm => .inl ⟨b, bk, h, hm, rfl⟩, fun b bk hb h => absurd (hR.lt b (hR.dom b bk h)) (by omega), fun _ _ => rfl, fun _ h => h, fun _ _ h => h, Nat.le_refl _, fun _ _ h => h, fun _ _ _ h h' => by rw [h] at h'; rw [Option.some.inj h'], fun _ _ h _ => h⟩

theorem Fr.trans {μ μ' μ'' : Nat → Pl} {K K' K'' : Nat → Prop} {H H' H'' : Hp} {w w' w'' : World} (hlt' : ∀ b bk, H.get b = some bk → b < H.nx) (h : Fr μ K H w μ' K' H' w') (k : Fr μ' K' H' w' μ'' K'' H'' w'') : Fr μ K H w μ'' K'' H'' w'' := by
  refine ⟨⟨k.same.1.trans h.same.1, k.same.2.1.trans h.same.2.1, k.same.2.2.trans h.same.2.2⟩, Nat.le_trans h.size k.size, fun i hi hne => ?_, fun b bk hb hm => ?_, fun b bk hb hg => ?_,
    fun b hb => (k.mu b (h.kk b hb)).trans (h.mu b hb), fun b hb => k.kk b (h.kk b hb), fun b hb hk => h.knew b hb (k.knew b (Nat.lt_of_lt_of_le hb h.nx) hk), Nat.le_trans h.nx k.nx,
    fun b hb hn => k.none b (Nat.lt_of_lt_of_le hb h.nx) (h.none b hb hn), fun b bk bk' hb hb' => ?_, fun b bk hb hm => k.ro b bk (h.ro b bk hb hm) hm⟩
  · rw [k.keep i (Nat.lt_of_lt_of_le hi h.size) fun b bk hb hm he => ?_, h.keep i hi hne]
    rcases h.img b bk hb hm with ⟨b0, bk0, h0, m0, e0⟩ | hge
    · exact hne b0 bk0 h0 m0 (e0.trans he)
    · omega
  · rcases k.img b bk hb hm with ⟨b0, bk0, h0, m0, e0⟩ | hge
    · rcases h.img b0 bk0 h0 m0 with ⟨b1, bk1, h1, m1, e1⟩ | hge
      · exact .inl ⟨b1, bk1, h1, m1, e1.trans e0⟩
      · exact .inr (by rw [← e0]; exact hge)
    · exact .inr (Nat.le_trans h.size hge)
  · by_cases hlt : b < H'.nx
    · cases hg' : H'.get b with
      | none => rw [k.none b hlt hg'] at hg; cases hg
      | some bk' => rw [k.stay b bk' bk hg' hg]; exact h.newmut b bk' hb hg'
    · exact k.newmut b bk (by omega) hg
  · cases hg' : H'.get b with
    | none =>
      by_cases hlt : b < H'.nx
      · rw [k.none b hlt hg'] at hb'; cases hb'
      · exact absurd (hlt' b bk hb) (by have := h.nx; omega)
    | some bk1 => rw [k.stay b bk1 bk' hg' hb', h.stay b bk bk1 hb hg']

/-- A world that only has drawn. -/
theorem Rel.drawn {G : Nat} {μ : Nat → Pl} {K : Nat → Prop} {H : Hp} {w : World} (h : Rel G μ K H w) (n : Nat) : Rel G μ K H { w with drawn := n } := ⟨h.dom, h.lt, h.blk, h.inj, h.glob⟩
theorem Fr.drawn {G : Nat} {μ : Nat → Pl} {K : Nat → Prop} {H : Hp} {w : World} (h : Rel G μ K H w) (n : Nat) : Fr μ K H w μ K H { w with drawn := n } :=
  let r := Fr.refl h
  ⟨⟨rfl, rfl, rfl⟩, Nat.le_refl _, fun _ _ _ => rfl, r.img, r.newmut, r.mu, r.kk, r.knew, r.nx, r.none, r.stay, r.ro⟩

end Go.Ab
