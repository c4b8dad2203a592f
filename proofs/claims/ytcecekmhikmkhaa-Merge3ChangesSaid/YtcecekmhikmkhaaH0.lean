/- Plain facts on lists, with no program in sight: three ascending lists gone through row by row, as merge3.rows does it. -/
namespace Go.Proofs.Ytcecekmhikmkhaa.M
variable {α : Type}
/-- The least head of the first k lists, with its list's number. -/
def minUpTo (cmp : α → α → Int) (L : Nat → List α) : Nat → Option (Nat × α)
  | 0 => none
  | k + 1 => match L k with
    | [] => minUpTo cmp L k
    | x :: _ => match minUpTo cmp L k with
      | none => some (k, x)
      | some (j, y) => if cmp x y < 0 then some (k, x) else some (j, y)
def liOf : Option (Nat × α) → Int
  | none => -1
  | some (j, _) => (j : Int)
/-- A list's head, if it is equal to f, and what is left. -/
def takeEq (cmp : α → α → Int) (f : α) : List α → Option α × List α
  | [] => (none, [])
  | x :: t => if cmp x f = 0 then (some x, t) else (none, x :: t)
abbrev Row (α : Type) := Option α × Option α × Option α
def rowOf (cmp : α → α → Int) (f : α) (L : Nat → List α) : Row α := ((takeEq cmp f (L 0)).1, (takeEq cmp f (L 1)).1, (takeEq cmp f (L 2)).1)
def restOf (cmp : α → α → Int) (f : α) (L : Nat → List α) : Nat → List α := fun i => (takeEq cmp f (L i)).2
def rowsN (cmp : α → α → Int) : Nat → (Nat → List α) → List (Row α)
  | 0, _ => []
  | n + 1, L => match minUpTo cmp L 3 with
    | none => []
    | some (_, f) => rowOf cmp f L :: rowsN cmp n (restOf cmp f L)
def total (L : Nat → List α) : Nat := (L 0).length + (L 1).length + (L 2).length
def rowsOf (cmp : α → α → Int) (L : Nat → List α) : List (Row α) := rowsN cmp (total L) L
theorem minUpTo_some {cmp : α → α → Int} {L : Nat → List α} {k j : Nat} {y : α} (h : minUpTo cmp L k = some (j, y)) : j < k ∧ ∃ t, L j = y :: t := by
  induction k generalizing j y with
  | zero => simp [minUpTo] at h
  | succ k ih =>
    unfold minUpTo at h
    cases hk : L k with
    | nil =>
      simp only [hk] at h
      obtain ⟨h1, h2⟩ := ih h
      exact ⟨by omega, h2⟩
    | cons x t =>
      simp only [hk] at h
      cases hm : minUpTo cmp L k with
      | none =>
        simp only [hm, Option.some.injEq, Prod.mk.injEq] at h
        obtain ⟨rfl, rfl⟩ := h
        exact ⟨by omega, t, hk⟩
      | some p =>
        obtain ⟨j', y'⟩ := p
        simp only [hm] at h
        split at h
        · simp only [Option.some.injEq, Prod.mk.injEq] at h
          obtain ⟨rfl, rfl⟩ := h
          exact ⟨by omega, t, hk⟩
        · simp only [Option.some.injEq, Prod.mk.injEq] at h
          obtain ⟨rfl, rfl⟩ := h
          obtain ⟨h1, h2⟩ := ih hm
          exact ⟨by omega, h2⟩
theorem minUpTo_none {cmp : α → α → Int} {L : Nat → List α} {k : Nat} (h : minUpTo cmp L k = none) : ∀ i, i < k → L i = [] := by
  induction k with
  | zero => intro i hi; omega
  | succ k ih =>
    unfold minUpTo at h
    cases hk : L k with
    | nil =>
      simp only [hk] at h
      intro i hi
      by_cases e : i = k
      · rw [e]; exact hk
      · exact ih h i (by omega)
    | cons x t =>
      simp only [hk] at h
      cases hm : minUpTo cmp L k with
      | none => simp [hm] at h
      | some p =>
        obtain ⟨j', y'⟩ := p
        simp only [hm] at h
        split at h <;> cases h
theorem minUpTo_nil {cmp : α → α → Int} {L : Nat → List α} {k : Nat} (h : L k = []) : minUpTo cmp L (k + 1) = minUpTo cmp L k := by
  rw [minUpTo]; simp only [h]
theorem minUpTo_first {cmp : α → α → Int} {L : Nat → List α} {k : Nat} {x : α} {t : List α} (h : L k = x :: t) (hm : minUpTo cmp L k = none) : minUpTo cmp L (k + 1) = some (k, x) := by
  rw [minUpTo]; simp only [h, hm]
theorem minUpTo_less {cmp : α → α → Int} {L : Nat → List α} {k j : Nat} {x y : α} {t : List α} (h : L k = x :: t) (hm : minUpTo cmp L k = some (j, y)) (hc : cmp x y < 0) : minUpTo cmp L (k + 1) = some (k, x) := by
  rw [minUpTo]; simp only [h, hm, if_pos hc]
theorem minUpTo_stay {cmp : α → α → Int} {L : Nat → List α} {k j : Nat} {x y : α} {t : List α} (h : L k = x :: t) (hm : minUpTo cmp L k = some (j, y)) (hc : ¬ cmp x y < 0) : minUpTo cmp L (k + 1) = some (j, y) := by
  rw [minUpTo]; simp only [h, hm, if_neg hc]
theorem takeEq_le (cmp : α → α → Int) (f : α) (l : List α) : (takeEq cmp f l).2.length ≤ l.length := by
  cases l with
  | nil => simp [takeEq]
  | cons x t => simp only [takeEq]; split <;> simp
theorem rest_less {cmp : α → α → Int} (hr : ∀ x, cmp x x = 0) {L : Nat → List α} {j : Nat} {f : α} (h : minUpTo cmp L 3 = some (j, f)) : total (restOf cmp f L) < total L := by
  obtain ⟨hj, t, ht⟩ := minUpTo_some h
  have h0 := takeEq_le cmp f (L 0)
  have h1 := takeEq_le cmp f (L 1)
  have h2 := takeEq_le cmp f (L 2)
  have hl : (takeEq cmp f (L j)).2.length < (L j).length := by rw [ht]; simp [takeEq, hr]
  unfold total restOf
  rcases (by omega : j = 0 ∨ j = 1 ∨ j = 2) with rfl | rfl | rfl <;> omega
theorem rowsN_step {cmp : α → α → Int} (hr : ∀ x, cmp x x = 0) : ∀ (a : Nat) (L : Nat → List α), total L ≤ a → rowsN cmp (a + 1) L = rowsN cmp a L := by
  intro a
  induction a with
  | zero =>
    intro L h
    have h0 : L 0 = [] := List.eq_nil_of_length_eq_zero (by unfold total at h; omega)
    have h1 : L 1 = [] := List.eq_nil_of_length_eq_zero (by unfold total at h; omega)
    have h2 : L 2 = [] := List.eq_nil_of_length_eq_zero (by unfold total at h; omega)
    simp [rowsN, minUpTo, h0, h1, h2]
  | succ a ih =>
    intro L h
    rw [rowsN, rowsN]
    cases hm : minUpTo cmp L 3 with
    | none => rfl
    | some p =>
      obtain ⟨j, f⟩ := p
      have hl := rest_less hr hm
      simp only
      rw [ih _ (by omega)]
theorem rowsN_enough {cmp : α → α → Int} (hr : ∀ x, cmp x x = 0) : ∀ (a : Nat) (L : Nat → List α), total L ≤ a → rowsN cmp a L = rowsN cmp (total L) L := by
  intro a
  induction a with
  | zero => intro L h; rw [show total L = 0 by omega]
  | succ a ih =>
    intro L h
    by_cases e : total L = a + 1
    · rw [e]
    · rw [← ih L (by omega)]
      exact rowsN_step hr a L (by omega)
theorem rowsOf_none {cmp : α → α → Int} {L : Nat → List α} (h : minUpTo cmp L 3 = none) : rowsOf cmp L = [] := by
  unfold rowsOf
  cases ht : total L with
  | zero => rfl
  | succ m => rw [rowsN]; simp only [h]
theorem rowsOf_some {cmp : α → α → Int} (hr : ∀ x, cmp x x = 0) {L : Nat → List α} {j : Nat} {f : α} (h : minUpTo cmp L 3 = some (j, f)) : rowsOf cmp L = rowOf cmp f L :: rowsOf cmp (restOf cmp f L) := by
  have hl := rest_less hr h
  obtain ⟨m, hm⟩ : ∃ m, total L = m + 1 := ⟨total L - 1, by omega⟩
  unfold rowsOf
  rw [hm, rowsN]
  simp only [h]
  rw [rowsN_enough hr m _ (by omega)]
theorem rowsOf_length {cmp : α → α → Int} (hr : ∀ x, cmp x x = 0) : ∀ (n : Nat) (L : Nat → List α), total L ≤ n → (rowsOf cmp L).length ≤ total L := by
  intro n
  induction n with
  | zero =>
    intro L h
    unfold rowsOf
    rw [show total L = 0 by omega]
    simp [rowsN]
  | succ n ih =>
    intro L h
    cases hm : minUpTo cmp L 3 with
    | none => rw [rowsOf_none hm]; simp
    | some p =>
      obtain ⟨j, f⟩ := p
      have hl := rest_less hr hm
      rw [rowsOf_some hr hm, List.length_cons]
      have := ih (restOf cmp f L) (by omega)
      omega
/-- A function of numbers, turned at one. -/
def upd {β : Type} (p : Nat → β) (k : Nat) (q : β) : Nat → β := fun i => if i = k then q else p i
def pick3 {β : Type} (a b c : β) : Nat → β
  | 0 => a
  | 1 => b
  | _ => c
theorem list_cases (l : List α) : l = [] ∨ ∃ x t, l = x :: t := by
  cases l with
  | nil => exact .inl rfl
  | cons x t => exact .inr ⟨x, t, rfl⟩
theorem opt_cases {β : Type} (o : Option (β × α)) : o = none ∨ ∃ j y, o = some (j, y) := by
  cases o with
  | none => exact .inl rfl
  | some p => exact .inr ⟨p.1, p.2, rfl⟩
end Go.Proofs.Ytcecekmhikmkhaa.M
