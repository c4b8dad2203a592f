/- Plain facts, with no program in sight: ascending lists with keys, what stands in them at a key, and what merge3.rows makes of three of them. -/
import Derived.Test.YtcecekmhikmkhaaH0
namespace Go.Proofs.Ytcecekmhikmkhaa.M
/-- A key: a register's two numbers, or a stamp and zero. -/
abbrev Key := Int × Int
def kl (a b : Key) : Prop := a.1 < b.1 ∨ a.1 = b.1 ∧ a.2 < b.2
theorem kl_irr (a : Key) : ¬ kl a a := by unfold kl; omega
theorem kl_tr {a b c : Key} (h : kl a b) (k : kl b c) : kl a c := by unfold kl at *; omega
theorem key_ext {a b : Key} (h1 : a.1 = b.1) (h2 : a.2 = b.2) : a = b := Prod.ext h1 h2
theorem kl_three (a b : Key) : kl a b ∨ a = b ∨ kl b a := by
  by_cases h : a = b
  · exact .inr (.inl h)
  · have : ¬ (a.1 = b.1 ∧ a.2 = b.2) := fun e => h (key_ext e.1 e.2)
    unfold kl
    omega
theorem kl_ne {a b : Key} (h : kl a b) : a ≠ b := fun e => kl_irr b (e ▸ h)
theorem kl_no {a b c : Key} (h : ¬ kl b a) (k : kl b c) : a = b ∨ kl a c := by
  rcases kl_three a b with h1 | h1 | h1
  · exact .inr (kl_tr h1 k)
  · exact .inl h1
  · exact absurd h1 h
variable {α β : Type}
def Asc (key : α → Key) (l : List α) : Prop := l.Pairwise fun x y => kl (key x) (key y)
def look (key : α → Key) (l : List α) (q : Key) : Option α := l.find? fun x => decide (key x = q)
theorem asc_nil (key : α → Key) : Asc key [] := List.Pairwise.nil
theorem asc_cons {key : α → Key} {x : α} {l : List α} : Asc key (x :: l) ↔ (∀ y ∈ l, kl (key x) (key y)) ∧ Asc key l := List.pairwise_cons
theorem look_nil (key : α → Key) (q : Key) : look key [] q = none := rfl
theorem look_cons (key : α → Key) (x : α) (l : List α) (q : Key) : look key (x :: l) q = if key x = q then some x else look key l q := by
  unfold look
  rw [List.find?_cons]
  by_cases h : key x = q <;> simp [h]
theorem look_key {key : α → Key} {l : List α} {q : Key} {x : α} (h : look key l q = some x) : key x = q ∧ x ∈ l := by
  unfold look at h
  exact ⟨of_decide_eq_true (List.find?_some (p := fun x => decide (key x = q)) h), List.mem_of_find?_eq_some h⟩
theorem look_none {key : α → Key} {l : List α} {q : Key} : look key l q = none ↔ ∀ x ∈ l, key x ≠ q := by
  unfold look
  rw [List.find?_eq_none]
  simp
theorem look_mem {key : α → Key} {l : List α} (h : Asc key l) {x : α} (hx : x ∈ l) : look key l (key x) = some x := by
  induction l with
  | nil => cases hx
  | cons y l ih =>
    rw [asc_cons] at h
    rw [look_cons]
    rcases List.mem_cons.mp hx with rfl | hx
    · rw [if_pos rfl]
    · rw [if_neg (kl_ne (h.1 x hx)), ih h.2 hx]
theorem asc_ext {key : α → Key} : ∀ {l m : List α}, Asc key l → Asc key m → (∀ q, look key l q = look key m q) → l = m
  | [], [], _, _, _ => rfl
  | [], y :: m, _, _, e => by have := e (key y); rw [look_nil, look_cons, if_pos rfl] at this; cases this
  | x :: l, [], _, _, e => by have := e (key x); rw [look_nil, look_cons, if_pos rfl] at this; cases this
  | x :: l, y :: m, hl, hm, e => by
    rw [asc_cons] at hl hm
    have hxy : key x = key y := by
      rcases kl_three (key x) (key y) with h | h | h
      · have h1 := e (key x)
        rw [look_cons, if_pos rfl, look_cons, if_neg (fun h' => kl_ne h h'.symm)] at h1
        obtain ⟨h2, h3⟩ := look_key h1.symm
        exact absurd (kl_tr h (hm.1 _ h3)) (kl_irr _)
      · exact h
      · have h1 := e (key y)
        rw [look_cons, look_cons, if_pos rfl, if_neg (fun h' => kl_ne h h'.symm)] at h1
        obtain ⟨h2, h3⟩ := look_key h1
        exact absurd (kl_tr h (hl.1 _ h3)) (kl_irr _)
    have hx : x = y := by
      have h1 := e (key x)
      rw [look_cons, if_pos rfl, look_cons, if_pos hxy.symm] at h1
      exact Option.some.inj h1
    subst hx
    rw [asc_ext hl.2 hm.2 (fun q => ?_)]
    have h1 := e q
    rw [look_cons, look_cons] at h1
    by_cases h : key x = q
    · rw [look_none.mpr (fun y hy => ?_), look_none.mpr (fun y hy => ?_)]
      · exact fun e' => kl_ne (hm.1 y hy) (h.trans e'.symm)
      · exact fun e' => kl_ne (hl.1 y hy) (h.trans e'.symm)
    · rw [if_neg h, if_neg h] at h1
      exact h1
/-! ### A list in which stands at most one thing for each key -/
theorem asc_flat {kb : β → Key} {F : Key → List β} (hk : ∀ q z, z ∈ F q → kb z = q) (h1 : ∀ q, (F q).length ≤ 1) :
    ∀ {ks : List Key}, Asc id ks → Asc kb (ks.flatMap F) ∧ ∀ q, look kb (ks.flatMap F) q = if q ∈ ks then (F q).head? else none
  | [], _ => ⟨List.Pairwise.nil, fun q => by simp [look]⟩
  | p :: ks, h => by
    rw [asc_cons] at h
    obtain ⟨ih1, ih2⟩ := asc_flat hk h1 h.2
    have hmem : ∀ z ∈ ks.flatMap F, kb z ∈ ks := fun z hz => by
      obtain ⟨q, hq, hz⟩ := List.mem_flatMap.mp hz
      rw [hk q z hz]; exact hq
    have h1p := h1 p
    rw [List.flatMap_cons]
    match hF : F p with
    | [] =>
      refine ⟨ih1, fun q => ?_⟩
      rw [List.nil_append, ih2 q]
      by_cases e : q = p
      · subst e
        rw [if_neg (fun hm => kl_irr q (h.1 q hm)), if_pos List.mem_cons_self, hF]
        rfl
      · simp [e]
    | [z] =>
      have hz : kb z = p := hk p z (by rw [hF]; simp)
      refine ⟨?_, fun q => ?_⟩
      · rw [List.singleton_append, asc_cons]
        exact ⟨fun y hy => by rw [hz]; exact h.1 _ (hmem y hy), ih1⟩
      · rw [List.singleton_append, look_cons, ih2 q, hz]
        by_cases e : p = q
        · subst e
          rw [if_pos rfl, if_pos List.mem_cons_self, hF]
          rfl
        · rw [if_neg e]
          simp [Ne.symm e]
    | z :: y :: t => rw [hF] at h1p; simp at h1p
/-! ### Three ascending lists, row by row -/
structure Cmp (key : α → Key) (cmp : α → α → Int) : Prop where
  lt : ∀ x y, cmp x y < 0 ↔ kl (key x) (key y)
  eq : ∀ x y, cmp x y = 0 ↔ key x = key y
theorem take_spec {key : α → Key} {cmp : α → α → Int} (hc : Cmp key cmp) {f : α} {l : List α} (h : Asc key l) (hm : ∀ x ∈ l, ¬ kl (key x) (key f)) :
    (takeEq cmp f l).1 = look key l (key f) ∧ Asc key (takeEq cmp f l).2 ∧ (∀ x ∈ (takeEq cmp f l).2, kl (key f) (key x)) ∧ ∀ q, kl (key f) q → look key (takeEq cmp f l).2 q = look key l q := by
  cases l with
  | nil => exact ⟨rfl, List.Pairwise.nil, fun x hx => (by cases hx), fun q _ => rfl⟩
  | cons x t =>
    rw [asc_cons] at h
    by_cases e : cmp x f = 0
    · rw [show takeEq cmp f (x :: t) = (some x, t) from if_pos e]
      have e' := (hc.eq x f).mp e
      refine ⟨by rw [look_cons, if_pos e'], h.2, fun y hy => by rw [← e']; exact h.1 y hy, fun q hq => ?_⟩
      rw [look_cons, if_neg (fun h' => kl_ne hq (e'.symm.trans h'))]
    · rw [show takeEq cmp f (x :: t) = (none, x :: t) from if_neg e]
      have e' : key x ≠ key f := fun h' => e ((hc.eq x f).mpr h')
      have hlt : kl (key f) (key x) := by
        rcases kl_three (key f) (key x) with h1 | h1 | h1
        · exact h1
        · exact absurd h1.symm e'
        · exact absurd h1 (hm x List.mem_cons_self)
      have hall : ∀ y ∈ x :: t, kl (key f) (key y) := fun y hy => by
        rcases List.mem_cons.mp hy with rfl | hy
        · exact hlt
        · exact kl_tr hlt (h.1 y hy)
      refine ⟨?_, asc_cons.mpr h, hall, fun q _ => rfl⟩
      exact (look_none.mpr fun y hy e2 => kl_ne (hall y hy) e2.symm).symm
theorem min_le {key : α → Key} {cmp : α → α → Int} (hc : Cmp key cmp) {L : Nat → List α} (hL : ∀ i, Asc key (L i)) : ∀ {k j : Nat} {f : α}, minUpTo cmp L k = some (j, f) → ∀ i, i < k → ∀ x ∈ L i, ¬ kl (key x) (key f) := by
  intro k
  induction k with
  | zero => intro j f h; simp [minUpTo] at h
  | succ k ih =>
    intro j f h i hi x hx
    have hhead : ∀ {y t}, L k = y :: t → ∀ x ∈ L k, ¬ kl (key x) (key y) := fun {y t} e x hx hl => by
      have h1 := hL k
      rw [e, asc_cons] at h1
      rw [e] at hx
      rcases List.mem_cons.mp hx with rfl | hx
      · exact kl_irr _ hl
      · exact kl_irr _ (kl_tr hl (h1.1 x hx))
    rcases list_cases (L k) with hk | ⟨y, t, hk⟩
    · rw [minUpTo_nil hk] at h
      by_cases e : i = k
      · subst e; rw [hk] at hx; cases hx
      · exact ih h i (by omega) x hx
    · rcases opt_cases (minUpTo cmp L k) with hm | ⟨j', y', hm⟩
      · rw [minUpTo_first hk hm] at h
        simp only [Option.some.injEq, Prod.mk.injEq] at h
        obtain ⟨rfl, rfl⟩ := h
        by_cases e : i = k
        · subst e; exact hhead hk x hx
        · rw [minUpTo_none hm i (by omega)] at hx; cases hx
      · by_cases hlt : cmp y y' < 0
        · rw [minUpTo_less hk hm hlt] at h
          simp only [Option.some.injEq, Prod.mk.injEq] at h
          obtain ⟨rfl, rfl⟩ := h
          by_cases e : i = k
          · subst e; exact hhead hk x hx
          · intro hl
            exact ih hm i (by omega) x hx (kl_tr hl ((hc.lt y y').mp hlt))
        · rw [minUpTo_stay hk hm hlt] at h
          simp only [Option.some.injEq, Prod.mk.injEq] at h
          obtain ⟨rfl, rfl⟩ := h
          by_cases e : i = k
          · subst e
            intro hl
            have hyf : ¬ kl (key y) (key y') := fun h' => hlt ((hc.lt y y').mpr h')
            have hxy := hhead hk x hx
            rcases kl_no hxy hl with h1 | h1
            · exact hyf (h1 ▸ hl)
            · exact hyf h1
          · exact ih hm i (by omega) x hx
/-- The row at a key. -/
def rowAt (key : α → Key) (L : Nat → List α) (q : Key) : Row α := (look key (L 0) q, look key (L 1) q, look key (L 2) q)
def inAny (key : α → Key) (L : Nat → List α) (q : Key) : Prop := ∃ i, i < 3 ∧ ∃ x ∈ L i, key x = q
theorem rows_spec {key : α → Key} {cmp : α → α → Int} (hc : Cmp key cmp) : ∀ (n : Nat) (L : Nat → List α), total L ≤ n → (∀ i, Asc key (L i)) →
    ∃ ks : List Key, Asc id ks ∧ rowsOf cmp L = ks.map (rowAt key L) ∧ ∀ q, q ∈ ks ↔ inAny key L q := by
  have hr : ∀ x, cmp x x = 0 := fun x => (hc.eq x x).mpr rfl
  intro n
  induction n with
  | zero =>
    intro L hn hL
    have e : ∀ i, i < 3 → L i = [] := fun i hi => List.eq_nil_of_length_eq_zero (by unfold total at hn; rcases (by omega : i = 0 ∨ i = 1 ∨ i = 2) with rfl | rfl | rfl <;> omega)
    refine ⟨[], List.Pairwise.nil, ?_, fun q => ?_⟩
    · unfold rowsOf
      rw [show total L = 0 by omega]
      rfl
    · simp only [List.not_mem_nil, false_iff]
      rintro ⟨i, hi, x, hx, _⟩
      rw [e i hi] at hx
      cases hx
  | succ n ih =>
    intro L hn hL
    rcases opt_cases (minUpTo cmp L 3) with hm | ⟨j, f, hm⟩
    · refine ⟨[], List.Pairwise.nil, rowsOf_none hm, fun q => ?_⟩
      simp only [List.not_mem_nil, false_iff]
      rintro ⟨i, hi, x, hx, _⟩
      rw [minUpTo_none hm i hi] at hx
      cases hx
    · have hml := min_le hc hL hm
      obtain ⟨hj, tj, hLj⟩ := minUpTo_some hm
      have hT : ∀ i, i < 3 → _ := fun i hi => take_spec hc (hL i) (hml i hi)
      have hL' : ∀ i, Asc key (restOf cmp f L i) := fun i => by
        unfold restOf
        by_cases hi : i < 3
        · exact (hT i hi).2.1
        · have := hL i
          cases hLi : L i with
          | nil => exact List.Pairwise.nil
          | cons x t =>
            rw [hLi] at this
            by_cases e : cmp x f = 0
            · rw [show takeEq cmp f (x :: t) = (some x, t) from if_pos e]
              exact (asc_cons.mp this).2
            · rw [show takeEq cmp f (x :: t) = (none, x :: t) from if_neg e]
              exact this
      have hl := rest_less hr hm
      obtain ⟨ks, h1, h2, h3⟩ := ih (restOf cmp f L) (by omega) hL'
      have hgt : ∀ q ∈ ks, kl (key f) q := fun q hq => by
        obtain ⟨i, hi, x, hx, rfl⟩ := (h3 q).mp hq
        exact (hT i hi).2.2.1 x hx
      refine ⟨key f :: ks, asc_cons.mpr ⟨hgt, h1⟩, ?_, fun q => ?_⟩
      · rw [rowsOf_some hr hm, List.map_cons, h2]
        congr 1
        · unfold rowOf rowAt
          rw [(hT 0 (by omega)).1, (hT 1 (by omega)).1, (hT 2 (by omega)).1]
        · refine List.map_congr_left fun q hq => ?_
          unfold rowAt restOf
          rw [(hT 0 (by omega)).2.2.2 q (hgt q hq), (hT 1 (by omega)).2.2.2 q (hgt q hq), (hT 2 (by omega)).2.2.2 q (hgt q hq)]
      · constructor
        · intro hq
          rcases List.mem_cons.mp hq with rfl | hq
          · exact ⟨j, hj, f, by rw [hLj]; exact List.mem_cons_self, rfl⟩
          · obtain ⟨i, hi, x, hx, e⟩ := (h3 q).mp hq
            have hk : look key (L i) q = some x := by
              rw [← (hT i hi).2.2.2 q (hgt q hq), ← e]
              exact look_mem (hT i hi).2.1 hx
            exact ⟨i, hi, x, (look_key hk).2, e⟩
        · rintro ⟨i, hi, x, hx, rfl⟩
          by_cases e : key x = key f
          · rw [e]; exact List.mem_cons_self
          · have hlt : kl (key f) (key x) := by
              rcases kl_three (key f) (key x) with h | h | h
              · exact h
              · exact absurd h.symm e
              · exact absurd h (hml i hi x hx)
            refine List.mem_cons_of_mem _ ((h3 _).mpr ⟨i, hi, x, ?_, rfl⟩)
            have hk := (hT i hi).2.2.2 (key x) hlt
            rw [look_mem (hL i) hx] at hk
            exact (look_key hk).2
theorem rowAt_none {key : α → Key} {L : Nat → List α} {q : Key} (h : ¬ inAny key L q) : rowAt key L q = (none, none, none) := by
  have e : ∀ i, i < 3 → look key (L i) q = none := fun i hi => look_none.mpr fun x hx e => h ⟨i, hi, x, hx, e⟩
  unfold rowAt
  rw [e 0 (by omega), e 1 (by omega), e 2 (by omega)]
/-- What is collected of the rows, where each gives at most one thing, with the row's key. -/
theorem flat_spec {key : α → Key} {cmp : α → α → Int} (hc : Cmp key cmp) {kb : β → Key} {g : Row α → List β} {L : Nat → List α} (hL : ∀ i, Asc key (L i))
    (hk : ∀ q z, z ∈ g (rowAt key L q) → kb z = q) (h1 : ∀ r, (g r).length ≤ 1) (h0 : g (none, none, none) = []) :
    Asc kb ((rowsOf cmp L).flatMap g) ∧ ∀ q, look kb ((rowsOf cmp L).flatMap g) q = (g (rowAt key L q)).head? := by
  obtain ⟨ks, a1, a2, a3⟩ := rows_spec hc _ L (Nat.le_refl _) hL
  rw [a2, List.flatMap_map]
  obtain ⟨b1, b2⟩ := asc_flat (F := fun q => g (rowAt key L q)) hk (fun q => h1 _) a1
  refine ⟨b1, fun q => ?_⟩
  rw [b2 q]
  by_cases h : q ∈ ks
  · rw [if_pos h]
  · rw [if_neg h, rowAt_none (fun h' => h ((a3 q).mpr h')), h0]
    rfl
end Go.Proofs.Ytcecekmhikmkhaa.M
