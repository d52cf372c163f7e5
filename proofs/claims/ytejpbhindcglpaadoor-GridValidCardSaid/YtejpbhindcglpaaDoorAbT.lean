/- A small trie from numbers to values: reading and writing, and that writes at different places commute. -/
import Derived.Orders
namespace Go.Ab

inductive T (α : Type) where
  | lf
  | nd (v : Option α) (l r : T α)

namespace T
variable {α : Type}

def val : T α → Option α
  | lf => none
  | nd v _ _ => v
def left : T α → T α
  | lf => lf
  | nd _ l _ => l
def right : T α → T α
  | lf => lf
  | nd _ _ r => r

def get : T α → Nat → Option α
  | lf, _ => none
  | nd v l r, n => if n = 0 then v else if n % 2 = 1 then l.get (n / 2) else r.get (n / 2 - 1)

def setF : Nat → T α → Nat → Option α → T α
  | 0, t, _, _ => t
  | f + 1, t, n, x =>
    if n = 0 then nd x t.left t.right
    else if n % 2 = 1 then nd t.val (setF f t.left (n / 2) x) t.right
    else nd t.val t.left (setF f t.right (n / 2 - 1) x)

def set (t : T α) (n : Nat) (x : Option α) : T α := setF (n + 1) t n x

@[simp] theorem get_lf (n : Nat) : (lf : T α).get n = none := rfl

theorem get_eq (t : T α) (n : Nat) : t.get n = if n = 0 then t.val else if n % 2 = 1 then t.left.get (n / 2) else t.right.get (n / 2 - 1) := by
  cases t with
  | lf => simp [val, left, right]
  | nd v l r => rfl

theorem get_nd (v : Option α) (l r : T α) (n : Nat) : (nd v l r).get n = if n = 0 then v else if n % 2 = 1 then l.get (n / 2) else r.get (n / 2 - 1) := rfl

theorem get_setF_self : ∀ (f : Nat) (t : T α) (n : Nat) (x : Option α), n < f → (setF f t n x).get n = x
  | 0, _, _, _, h => absurd h (by omega)
  | f + 1, t, n, x, h => by
    simp only [setF]
    by_cases h0 : n = 0
    · simp [h0, get_nd]
    · by_cases h1 : n % 2 = 1
      · simp only [h0, h1, if_true, if_false, get_nd]
        exact get_setF_self f _ _ _ (by omega)
      · simp only [h0, h1, if_false, get_nd]
        exact get_setF_self f _ _ _ (by omega)

theorem get_setF_ne : ∀ (f : Nat) (t : T α) (n m : Nat) (x : Option α), m ≠ n → (setF f t n x).get m = t.get m
  | 0, _, _, _, _, _ => rfl
  | f + 1, t, n, m, x, h => by
    rw [get_eq t m]
    simp only [setF]
    by_cases h0 : n = 0
    · simp only [h0, if_true, get_nd]
      have m0 : m ≠ 0 := by omega
      simp [m0]
    · by_cases h1 : n % 2 = 1
      · simp only [h0, h1, if_true, if_false, get_nd]
        by_cases m0 : m = 0
        · simp [m0]
        · by_cases m1 : m % 2 = 1
          · simp only [m0, m1, if_true, if_false]
            exact get_setF_ne f _ _ _ _ (by omega)
          · simp [m0, m1]
      · simp only [h0, h1, if_false, get_nd]
        by_cases m0 : m = 0
        · simp [m0]
        · by_cases m1 : m % 2 = 1
          · simp [m0, m1]
          · simp only [m0, m1, if_false]
            exact get_setF_ne f _ _ _ _ (by omega)

@[simp] theorem get_set_self (t : T α) (n : Nat) (x : Option α) : (t.set n x).get n = x := get_setF_self _ _ _ _ (by omega)
theorem get_set_ne (t : T α) {n m : Nat} (x : Option α) (h : m ≠ n) : (t.set n x).get m = t.get m := get_setF_ne _ _ _ _ _ h
theorem get_set (t : T α) (n m : Nat) (x : Option α) : (t.set n x).get m = if m = n then x else t.get m := by
  by_cases h : m = n
  · subst h; simp
  · simp [h, get_set_ne t x h]

@[simp] theorem val_nd (v : Option α) (l r : T α) : (nd v l r).val = v := rfl
@[simp] theorem left_nd (v : Option α) (l r : T α) : (nd v l r).left = l := rfl
@[simp] theorem right_nd (v : Option α) (l r : T α) : (nd v l r).right = r := rfl

theorem setF_comm : ∀ (f g : Nat) (t : T α) (i j : Nat) (x y : Option α), i ≠ j → i < g → j < f → setF f (setF g t i x) j y = setF g (setF f t j y) i x
  | 0, _, _, _, _, _, _, _, _, h => absurd h (by omega)
  | _ + 1, 0, _, _, _, _, _, _, h, _ => absurd h (by omega)
  | f + 1, g + 1, t, i, j, x, y, hne, hi, hj => by
    simp only [setF]
    by_cases i0 : i = 0
    · have j0 : j ≠ 0 := by omega
      by_cases j1 : j % 2 = 1 <;> simp [i0, j0, j1]
    · by_cases j0 : j = 0
      · by_cases i1 : i % 2 = 1 <;> simp [i0, j0, i1]
      · by_cases i1 : i % 2 = 1
        · by_cases j1 : j % 2 = 1
          · simp only [i0, j0, i1, j1, if_true, if_false, val_nd, left_nd, right_nd]
            rw [setF_comm f g _ _ _ _ _ (by omega) (by omega) (by omega)]
          · simp [i0, j0, i1, j1]
        · by_cases j1 : j % 2 = 1
          · simp [i0, j0, i1, j1]
          · simp only [i0, j0, i1, j1, if_false, val_nd, left_nd, right_nd]
            rw [setF_comm f g _ _ _ _ _ (by omega) (by omega) (by omega)]

theorem set_comm (t : T α) {i j : Nat} (x y : Option α) (h : i ≠ j) : (t.set i x).set j y = (t.set j y).set i x :=
  setF_comm _ _ _ _ _ _ _ h (by omega) (by omega)
end T
end Go.Ab
