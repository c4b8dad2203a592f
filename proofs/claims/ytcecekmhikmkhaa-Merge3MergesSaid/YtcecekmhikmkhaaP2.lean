/- Plain facts: what merge3.Merge makes of three ascending states (its pure form), and what the reference's register makes of three ascending lists of alternatives. -/
import Derived.Test.YtcecekmhikmkhaaP1
import Derived.Test.YtcecekmhikmkhaaH9
import Derived.Test.YtcecekmhikmkhaaMx9
namespace Go.Proofs.Ytcecekmhikmkhaa.M
open Go.RowKit Go.Proofs.YtcecekmhikmkhaaW.PrintWords Go.Proofs.YtcecekmhikmkhaaW.PrintLast Go.Proofs.YtcecekmhikmkhaaW.PrintMore
set_option linter.unusedVariables false
set_option linter.unusedSimpArgs false
def keyA (x : S49) : Key := (x.f0, 0)
def keyS (x : S53) : Key := (x.f0, x.f1)
def keyP (x : S36) : Key := (x.f0, x.f1)
theorem cmpA_key : Cmp keyA cmpA where
  lt x y := by unfold cmpA kl keyA; rw [cmpI_neg]; simp
  eq x y := by unfold cmpA keyA; rw [cmpI_zero]; simp
theorem cmpS_key : Cmp keyS cmpS where
  lt x y := by
    unfold cmpS kl keyS
    by_cases h : cmpI x.f0 y.f0 = 0
    · rw [if_pos h, cmpI_neg]; rw [cmpI_zero] at h; simp [h]
    · rw [if_neg h, cmpI_neg]; rw [cmpI_zero] at h; simp [h]
  eq x y := by
    unfold cmpS keyS
    by_cases h : cmpI x.f0 y.f0 = 0
    · rw [if_pos h, cmpI_zero]; rw [cmpI_zero] at h; simp [h]
    · rw [if_neg h]; rw [cmpI_zero] at h; simp [h, cmpI_zero]
theorem pick3_all {α : Type} {p : α → Prop} {a b c : α} (ha : p a) (hb : p b) (hc : p c) : ∀ i, p (pick3 a b c i)
  | 0 => ha
  | 1 => hb
  | _ + 2 => hc
theorem keptAlt_le (x y z : Option S49) : (keptAlt x y z).length ≤ 1 := by cases x <;> cases y <;> cases z <;> simp [keptAlt]
theorem keptAlt_mem {x y z : Option S49} {a : S49} (h : a ∈ keptAlt x y z) : y = some a ∨ z = some a := by cases x <;> cases y <;> cases z <;> simp [keptAlt] at h <;> simp [h]
theorem mergeAlts_spec {o x y : List S49} (ho : Asc keyA o) (hx : Asc keyA x) (hy : Asc keyA y) :
    Asc keyA (mergeAltsP (pick3 o x y)) ∧ ∀ q, look keyA (mergeAltsP (pick3 o x y)) q = (keptAlt (look keyA o q) (look keyA x q) (look keyA y q)).head? := by
  refine flat_spec cmpA_key (kb := keyA) (g := keptRow) (pick3_all ho hx hy) (fun q z hz => ?_) (fun r => keptAlt_le _ _ _) rfl
  rcases keptAlt_mem hz with h | h
  · exact (look_key h).1
  · exact (look_key h).1
/-- A state's registers ascend, and the alternatives in each. -/
structure Tidy (l : List S53) : Prop where
  asc : Asc keyS l
  alts : ∀ s ∈ l, Asc keyA s.f2
theorem tidy_alts {l : List S53} (h : Tidy l) (q : Key) : Asc keyA (altsO (look keyS l q)) := by
  cases hl : look keyS l q with
  | none => exact List.Pairwise.nil
  | some s => exact h.alts s (look_key hl).2
/-- The alternatives of a register. -/
def altsAt (l : List S53) (q : Key) : List S49 := altsO (look keyS l q)
def slotAt (q : Key) (l : List S49) : Option S53 := if l = [] then none else some ⟨q.1, q.2, l⟩
theorem firstS_key {l0 l1 l2 : List S53} {q : Key} (h : rowAt keyS (pick3 l0 l1 l2) q ≠ (none, none, none)) : keyS (firstS (rowAt keyS (pick3 l0 l1 l2) q)) = q := by
  unfold rowAt at *
  simp only [pick3] at *
  cases h0 : look keyS l0 q with
  | some s => exact (look_key h0).1
  | none =>
    cases h1 : look keyS l1 q with
    | some s => exact (look_key h1).1
    | none =>
      cases h2 : look keyS l2 q with
      | some s => exact (look_key h2).1
      | none => rw [h0, h1, h2] at h; exact absurd rfl h
theorem altsRow_at (l0 l1 l2 : List S53) (q : Key) : altsRow (rowAt keyS (pick3 l0 l1 l2) q) = pick3 (altsAt l0 q) (altsAt l1 q) (altsAt l2 q) := rfl
theorem kept_none : mergeAltsP (altsRow (none, none, none)) = [] := altsRow_none
theorem merge_spec {l0 l1 l2 : List S53} (h0 : Tidy l0) (h1 : Tidy l1) (h2 : Tidy l2) :
    Asc keyS (mergeP l0 l1 l2) ∧ ∀ q, look keyS (mergeP l0 l1 l2) q = slotAt q (mergeAltsP (pick3 (altsAt l0 q) (altsAt l1 q) (altsAt l2 q))) := by
  have hne : ∀ q, mergeAltsP (altsRow (rowAt keyS (pick3 l0 l1 l2) q)) ≠ [] → keyS (firstS (rowAt keyS (pick3 l0 l1 l2) q)) = q := fun q h => firstS_key fun e => h (by rw [e]; exact kept_none)
  have h := flat_spec cmpS_key (kb := keyS) (g := keptSlot) (L := pick3 l0 l1 l2) (pick3_all h0.asc h1.asc h2.asc) (fun q z hz => ?_) (fun r => ?_) (by unfold keptSlot; rw [if_pos kept_none])
  · refine ⟨h.1, fun q => ?_⟩
    have h3 := h.2 q
    show look keyS (mergeP l0 l1 l2) q = _
    unfold mergeP
    rw [h3]
    unfold keptSlot slotAt
    rw [altsRow_at]
    by_cases e : mergeAltsP (pick3 (altsAt l0 q) (altsAt l1 q) (altsAt l2 q)) = []
    · rw [if_pos e, if_pos e]; rfl
    · rw [if_neg e, if_neg e]
      have := hne q (by rw [altsRow_at]; exact e)
      simp only [List.head?_cons, Option.some.injEq, S53.mk.injEq, and_true]
      exact ⟨congrArg Prod.fst this, congrArg Prod.snd this⟩
  · unfold keptSlot at hz
    split at hz
    · cases hz
    · rename_i e
      simp only [List.mem_singleton] at hz
      subst hz
      exact hne q e
  · unfold keptSlot
    split <;> simp
/-! ### What is so from some number of rounds on -/
def Ev {α : Type} (f : Nat → Option α) (r : α) : Prop := ∃ K, ∀ k, K ≤ k → f k = some r
theorem Ev.const {α : Type} {f : Nat → Option α} {r : α} (h : ∀ k, f k = some r) : Ev f r := ⟨0, fun k _ => h k⟩
theorem Ev.step {α : Type} {f g : Nat → Option α} {r : α} (h : ∀ k, f (k + 1) = g k) (hg : Ev g r) : Ev f r := by
  obtain ⟨K, hK⟩ := hg
  refine ⟨K + 1, fun k hk => ?_⟩
  obtain ⟨k, rfl⟩ : ∃ m, k = m + 1 := ⟨k - 1, by omega⟩
  rw [h]
  exact hK k (by omega)
theorem Ev.bind {α β : Type} {f : Nat → Option α} {g : Nat → α → Option β} {a : α} {b : β} (hf : Ev f a) (hg : Ev (fun k => g k a) b) : Ev (fun k => (f k).bind (g k)) b := by
  obtain ⟨K, hK⟩ := hf
  obtain ⟨M, hM⟩ := hg
  refine ⟨max K M, fun k hk => ?_⟩
  show (f k).bind (g k) = some b
  rw [hK k (by omega)]
  exact hM k (by omega)
theorem Ev.congr {α : Type} {f g : Nat → Option α} {r : α} (h : ∀ k, f k = g k) (hg : Ev g r) : Ev f r := by
  obtain ⟨K, hK⟩ := hg
  exact ⟨K, fun k hk => (h k).trans (hK k hk)⟩
theorem Ev.pos {α : Type} {p : Prop} [Decidable p] {f g : Nat → Option α} {r : α} (h : p) (hf : Ev f r) : Ev (fun k => if p then f k else g k) r := Ev.congr (fun k => if_pos h) hf
theorem Ev.neg {α : Type} {p : Prop} [Decidable p] {f g : Nat → Option α} {r : α} (h : ¬ p) (hg : Ev g r) : Ev (fun k => if p then f k else g k) r := Ev.congr (fun k => if_neg h) hg
theorem wrap_nat {n : Nat} (h : n ≤ 1000000000) : wrap64 ((n : Int) + 1) = ((n + 1 : Nat) : Int) := by unfold wrap64; omega
theorem wrap_pred {n : Nat} (h : n ≤ 1000000000) : wrap64 (((n + 1 : Nat) : Int) - 1) = (n : Int) := by unfold wrap64; omega
theorem rd49 {l : List S49} {i : Nat} (h : i < l.length) : rd_T49 l (i : Int) = l[i] := by simp [rd_T49, List.getD_eq_getElem?_getD, List.getElem?_eq_getElem h]
theorem rd53 {l : List S53} {i : Nat} (h : i < l.length) : rd_T53 l (i : Int) = l[i] := by simp [rd_T53, List.getD_eq_getElem?_getD, List.getElem?_eq_getElem h]
/-! ### The reference's register -/
def inP (l : List S49) (s : Int) : Bool := l.any fun x => decide (x.f0 = s)
theorem in_ev {l : List S49} (hl : l.length ≤ 1000000) (s : Int) : Ev (fun k => semvcsref28_in.f k l s) (inP l s) := by
  have H : ∀ (d i : Nat), i + d = l.length → Ev (fun k => semvcsref28_in.l0 k l s (i : Int)) (inP (l.drop i) s) := by
    intro d
    induction d with
    | zero =>
      intro i hi
      refine Ev.step (fun k => by rw [semvcsref28_in.l0]) (Ev.neg (by omega) ?_)
      rw [List.drop_of_length_le (by omega)]
      exact Ev.const fun k => rfl
    | succ d ih =>
      intro i hi
      have hil : i < l.length := by omega
      refine Ev.step (fun k => by rw [semvcsref28_in.l0]) (Ev.pos (by omega) (Ev.pos (by omega) ?_))
      rw [rd49 hil, List.drop_eq_getElem_cons hil]
      by_cases e : l[i].f0 = s
      · refine Ev.pos e (Ev.const fun k => ?_)
        unfold inP
        rw [List.any_cons, decide_eq_true e, Bool.true_or]
      · refine Ev.neg e ?_
        rw [wrap_nat (by omega)]
        have : inP (l[i] :: l.drop (i + 1)) s = inP (l.drop (i + 1)) s := by unfold inP; rw [List.any_cons, decide_eq_false e, Bool.false_or]
        rw [this]
        exact ih (i + 1) (by omega)
  exact H l.length 0 (by omega)
theorem inP_look (l : List S49) (s : Int) : inP l s = (look keyA l (s, 0)).isSome := by
  unfold inP look
  induction l with
  | nil => rfl
  | cons x l ih =>
    rw [List.any_cons, List.find?_cons]
    by_cases e : x.f0 = s
    · simp [keyA, e]
    · simp only [keyA, Prod.mk.injEq, and_true, e, decide_false, Bool.false_or] at ih ⊢
      exact ih
theorem look_append {α : Type} (key : α → Key) (l m : List α) (q : Key) : look key (l ++ m) q = (look key l q).or (look key m q) := by
  unfold look
  rw [List.find?_append]
/-- A thing put at its place into an ascending list. -/
theorem asc_put {α : Type} {key : α → Key} {a b : List α} {x : α} (h : Asc key (a ++ b)) (ha : ∀ y ∈ a, kl (key y) (key x)) (hb : ∀ y ∈ b, kl (key x) (key y)) :
    Asc key (a ++ x :: b) ∧ ∀ q, look key (a ++ x :: b) q = if key x = q then some x else look key (a ++ b) q := by
  unfold Asc at *
  rw [List.pairwise_append] at h
  refine ⟨?_, fun q => ?_⟩
  · rw [List.pairwise_append, List.pairwise_cons]
    refine ⟨h.1, ⟨hb, h.2.1⟩, fun y hy z hz => ?_⟩
    rcases List.mem_cons.mp hz with rfl | hz
    · exact ha y hy
    · exact h.2.2 y hy z hz
  · rw [look_append, look_append, look_cons]
    by_cases e : key x = q
    · rw [if_pos e, if_pos e, look_none.mpr (fun y hy e' => kl_ne (ha y hy) (e'.trans e.symm))]
      rfl
    · rw [if_neg e, if_neg e]
theorem take_kl {l : List S49} (h : Asc keyA l) {i : Nat} {s : Int} (hi : i < l.length) (hs : l[i].f0 < s) : ∀ y ∈ l.take (i + 1), y.f0 < s := by
  intro y hy
  obtain ⟨j, hj, rfl⟩ := List.mem_take_iff_getElem.mp hy
  rcases Nat.lt_or_ge j i with hlt | hge
  · have := List.pairwise_iff_getElem.mp h j i (by omega) hi hlt
    unfold kl keyA at this
    simp at this
    omega
  · have : j = i := by omega
    subst this
    exact hs
theorem insert_ev {l : List S49} (hl : l.length ≤ 1000) (h : Asc keyA l) (x : S49) :
    ∃ r, Ev (fun k => semvcsref28_insert.f k l x.f0 x.f1.f0 x.f1.f1 x.f1.f2 x.f1.f3) r ∧ Asc keyA r ∧ r.length ≤ l.length + 1 ∧ ∀ q, look keyA r q = (look keyA l q).or (if keyA x = q then some x else none) := by
  have hin := in_ev (l := l) (by omega) x.f0
  by_cases hm : inP l x.f0 = true
  · refine ⟨l, Ev.bind hin (Ev.pos hm (Ev.const fun k => rfl)), h, by omega, fun q => ?_⟩
    cases hq : look keyA l q with
    | some y => rfl
    | none =>
      by_cases e : keyA x = q
      · rw [inP_look] at hm
        rw [← e] at hq
        rw [show (x.f0, (0 : Int)) = keyA x from rfl, hq] at hm
        cases hm
      · simp [e]
  · have hno : ∀ y ∈ l, y.f0 ≠ x.f0 := fun y hy e => hm (by unfold inP; rw [List.any_eq_true]; exact ⟨y, hy, by simp [e]⟩)
    have H : ∀ i : Nat, i ≤ l.length → (∀ y ∈ l.drop i, x.f0 < y.f0) → ∃ r, Ev (fun k => semvcsref28_insert.l0 k l (i : Int) x.f0 x.f1.f0 x.f1.f1 x.f1.f2 x.f1.f3) r ∧ Asc keyA r ∧ r.length ≤ l.length + 1 ∧ ∀ q, look keyA r q = (look keyA l q).or (if keyA x = q then some x else none) := by
      have fin : ∀ i : Nat, i ≤ l.length → (∀ y ∈ l.drop i, x.f0 < y.f0) → (∀ y ∈ l.take i, y.f0 < x.f0) → ∃ r, Ev (fun k => semvcsref28_insert.j1 k l (i : Int) x.f0 x.f1.f0 x.f1.f1 x.f1.f2 x.f1.f3) r ∧ Asc keyA r ∧ r.length ≤ l.length + 1 ∧ ∀ q, look keyA r q = (look keyA l q).or (if keyA x = q then some x else none) := by
        intro i hi hd ht
        have hlt : (l.take i).length ≤ 1000 := by rw [List.length_take]; omega
        have hld : (l.drop i).length ≤ 1000 := by rw [List.length_drop]; omega
        obtain ⟨h1, h2⟩ := asc_put (key := keyA) (a := l.take i) (b := l.drop i) (x := x) (by rw [List.take_append_drop]; exact h) (fun y hy => .inl (ht y hy)) (fun y hy => .inl (hd y hy))
        refine ⟨l.take i ++ x :: l.drop i, Ev.step (fun k => by rw [semvcsref28_insert.j1]) (Ev.const fun k => ?_), h1, ?_, fun q => ?_⟩
        · rw [Option.bind_some, if_pos (by omega), if_pos (by omega), Option.bind_some, Int.toNat_natCast, if_pos (by simp; omega), Option.bind_some, if_pos (by simp; omega), Option.bind_some, Option.bind_some, if_pos (by simp; omega)]
          simp
        · simp only [List.length_append, List.length_cons, List.length_take, List.length_drop]
          omega
        · rw [h2 q, List.take_append_drop]
          by_cases e : keyA x = q
          · rw [if_pos e, if_pos e, look_none.mpr (fun y hy e' => hno y hy (congrArg Prod.fst (e'.trans e.symm)))]
            rfl
          · rw [if_neg e, if_neg e]
            simp
      intro i
      induction i with
      | zero =>
        intro hi hd
        obtain ⟨r, hr, hrest⟩ := fin 0 hi hd (fun y hy => by simp at hy)
        exact ⟨r, Ev.step (fun k => by rw [semvcsref28_insert.l0]) (Ev.neg (by omega) hr), hrest⟩
      | succ i ih =>
        intro hi hd
        have hil : i < l.length := by omega
        by_cases e : l[i].f0 > x.f0
        · obtain ⟨r, hr, hrest⟩ := ih (by omega) (fun y hy => by
            rw [List.drop_eq_getElem_cons hil] at hy
            rcases List.mem_cons.mp hy with rfl | hy
            · exact e
            · exact hd y hy)
          refine ⟨r, Ev.step (fun k => by rw [semvcsref28_insert.l0]) (Ev.pos (by omega) ?_), hrest⟩
          rw [wrap_pred (by omega), rd49 hil]
          exact Ev.pos (by omega) (Ev.pos (by omega) (Ev.pos e hr))
        · have hne := hno l[i] (List.getElem_mem hil)
          obtain ⟨r, hr, hrest⟩ := fin (i + 1) hi hd (take_kl h hil (by omega))
          refine ⟨r, Ev.step (fun k => by rw [semvcsref28_insert.l0]) (Ev.pos (by omega) ?_), hrest⟩
          rw [wrap_pred (by omega), rd49 hil]
          exact Ev.pos (by omega) (Ev.pos (by omega) (Ev.neg e hr))
    obtain ⟨r, hr, hrest⟩ := H l.length (Nat.le_refl _) (fun y hy => by simp at hy)
    exact ⟨r, Ev.bind hin (Ev.neg (by simpa using hm) hr), hrest⟩
theorem keyA_eq {x y : S49} : keyA x = keyA y ↔ x.f0 = y.f0 := by simp [keyA]
theorem key0 {l : List S49} {q : Key} {x : S49} (h : look keyA l q = some x) : q = (x.f0, 0) := (look_key h).1.symm
theorem look_fst {l : List S49} {q : Key} (h : q.2 ≠ 0) : look keyA l q = none := look_none.mpr fun x _ e => h (by rw [← e]; rfl)
/-- What the reference's register has taken in of the first n of a's, and of the first m of b's. -/
def regAt (o a b : List S49) (n m : Nat) (q : Key) : Option S49 :=
  (if (look keyA b q).isSome ∨ ¬ (look keyA o q).isSome then look keyA (a.take n) q else none).or (if (look keyA o q).isSome then none else look keyA (b.take m) q)
theorem look_take {l : List S49} (h : Asc keyA l) {i : Nat} (hi : i < l.length) (q : Key) : look keyA (l.take (i + 1)) q = (look keyA (l.take i) q).or (if keyA l[i] = q then some l[i] else none) := by
  rw [List.take_succ_eq_append_getElem hi, look_append, look_cons, look_nil]
theorem register_ev {o a b : List S49} (ho : o.length ≤ 400) (ha : a.length ≤ 400) (hb : b.length ≤ 400) (haa : Asc keyA a) (hba : Asc keyA b) :
    ∃ r, Ev (fun k => semvcsref28_register.f k o a b) r ∧ Asc keyA r ∧ ∀ q, look keyA r q = regAt o a b a.length b.length q := by
  have H1 : ∀ (d i : Nat) (out : List S49), i + d = b.length → Asc keyA out → out.length ≤ 400 + i → (∀ q, look keyA out q = regAt o a b a.length i q) →
      ∃ r, Ev (fun k => semvcsref28_register.l1 k o b out (i : Int)) r ∧ Asc keyA r ∧ ∀ q, look keyA r q = regAt o a b a.length b.length q := by
    intro d
    induction d with
    | zero =>
      intro i out hi hs hn hq
      obtain rfl : i = b.length := by omega
      exact ⟨out, Ev.step (fun k => by rw [semvcsref28_register.l1]) (Ev.neg (by omega) (Ev.const fun k => rfl)), hs, hq⟩
    | succ d ih =>
      intro i out hi hs hn hq
      have hil : i < b.length := by omega
      have hin := in_ev (l := o) (by omega) b[i].f0
      by_cases e : inP o b[i].f0 = true
      · obtain ⟨r, hr, hrest⟩ := ih (i + 1) out (by omega) hs (by omega) (fun q => by
          rw [hq q]
          unfold regAt
          rw [look_take hba hil]
          by_cases e2 : keyA b[i] = q
          · rw [inP_look] at e
            rw [show (b[i].f0, (0 : Int)) = q from e2] at e
            rw [if_pos e, if_pos e]
          · rw [if_neg e2, Option.or_none])
        refine ⟨r, Ev.step (fun k => by rw [semvcsref28_register.l1]) (Ev.pos (by omega) (Ev.pos (by omega) ?_)), hrest⟩
        rw [rd49 hil]
        refine Ev.bind hin (Ev.pos e ?_)
        rw [wrap_nat (by omega)]
        exact hr
      · obtain ⟨t, ht, hts, htn, htq⟩ := insert_ev (l := out) (by omega) hs b[i]
        obtain ⟨r, hr, hrest⟩ := ih (i + 1) t (by omega) hts (by omega) (fun q => by
          rw [htq q, hq q]
          unfold regAt
          rw [look_take hba hil, Option.or_assoc]
          congr 1
          rw [inP_look] at e
          by_cases e2 : keyA b[i] = q
          · rw [show (b[i].f0, (0 : Int)) = q from e2] at e
            rw [if_neg e, if_neg e]
          · rw [if_neg e2, Option.or_none, Option.or_none])
        refine ⟨r, Ev.step (fun k => by rw [semvcsref28_register.l1]) (Ev.pos (by omega) (Ev.pos (by omega) ?_)), hrest⟩
        rw [rd49 hil]
        refine Ev.bind hin (Ev.neg e (Ev.bind ht ?_))
        rw [wrap_nat (by omega)]
        exact hr
  have H0 : ∀ (d i : Nat) (out : List S49), i + d = a.length → Asc keyA out → out.length ≤ i → (∀ q, look keyA out q = regAt o a b i 0 q) →
      ∃ r, Ev (fun k => semvcsref28_register.l0 k o a b out (i : Int)) r ∧ Asc keyA r ∧ ∀ q, look keyA r q = regAt o a b a.length b.length q := by
    intro d
    induction d with
    | zero =>
      intro i out hi hs hn hq
      obtain rfl : i = a.length := by omega
      obtain ⟨r, hr, hrest⟩ := H1 b.length 0 out (by omega) hs (by omega) hq
      have hr0 : Ev (fun k => semvcsref28_register.l1 k o b out 0) r := hr
      exact ⟨r, Ev.step (fun k => by rw [semvcsref28_register.l0]) (Ev.neg (by omega) hr0), hrest⟩
    | succ d ih =>
      intro i out hi hs hn hq
      have hil : i < a.length := by omega
      have hinb := in_ev (l := b) (by omega) a[i].f0
      have hino := in_ev (l := o) (by omega) a[i].f0
      have nil0 : ∀ q : Key, look keyA (b.take 0) q = none := fun q => rfl
      -- taken in
      have yes : (inP b a[i].f0 = true ∨ ¬ inP o a[i].f0 = true) → ∃ t r, Ev (fun k => semvcsref28_insert.f k out a[i].f0 a[i].f1.f0 a[i].f1.f1 a[i].f1.f2 a[i].f1.f3) t ∧ Ev (fun k => semvcsref28_register.l0 k o a b t ((i + 1 : Nat) : Int)) r ∧ Asc keyA r ∧ ∀ q, look keyA r q = regAt o a b a.length b.length q := fun e => by
        obtain ⟨t, ht, hts, htn, htq⟩ := insert_ev (l := out) (by omega) hs a[i]
        obtain ⟨r, hr, hrest⟩ := ih (i + 1) t (by omega) hts (by omega) (fun q => by
          rw [htq q, hq q]
          unfold regAt
          rw [look_take haa hil, nil0]
          rw [inP_look, inP_look] at e
          by_cases e2 : keyA a[i] = q
          · rw [show (a[i].f0, (0 : Int)) = q from e2] at e
            rw [if_pos e, if_pos e]
            simp
          · rw [if_neg e2, Option.or_none, Option.or_none])
        exact ⟨t, r, ht, hr, hrest⟩
      by_cases eb : inP b a[i].f0 = true
      · obtain ⟨t, r, ht, hr, hrest⟩ := yes (.inl eb)
        refine ⟨r, Ev.step (fun k => by rw [semvcsref28_register.l0]) (Ev.pos (by omega) (Ev.pos (by omega) ?_)), hrest⟩
        rw [rd49 hil]
        refine Ev.bind hinb (Ev.pos eb (Ev.bind ht ?_))
        rw [wrap_nat (by omega)]
        exact hr
      · by_cases eo : inP o a[i].f0 = true
        · obtain ⟨r, hr, hrest⟩ := ih (i + 1) out (by omega) hs (by omega) (fun q => by
            rw [hq q]
            unfold regAt
            rw [look_take haa hil, nil0]
            rw [inP_look] at eb eo
            by_cases e2 : keyA a[i] = q
            · rw [show (a[i].f0, (0 : Int)) = q from e2] at eb eo
              have hc : ¬ ((look keyA b q).isSome = true ∨ ¬ (look keyA o q).isSome = true) := fun h => h.elim eb (fun h => h eo)
              rw [if_neg hc, if_neg hc]
            · rw [if_neg e2, Option.or_none])
          refine ⟨r, Ev.step (fun k => by rw [semvcsref28_register.l0]) (Ev.pos (by omega) (Ev.pos (by omega) ?_)), hrest⟩
          rw [rd49 hil]
          refine Ev.bind hinb (Ev.neg eb (Ev.bind hino (Ev.pos eo ?_)))
          rw [wrap_nat (by omega)]
          exact hr
        · obtain ⟨t, r, ht, hr, hrest⟩ := yes (.inr eo)
          refine ⟨r, Ev.step (fun k => by rw [semvcsref28_register.l0]) (Ev.pos (by omega) (Ev.pos (by omega) ?_)), hrest⟩
          rw [rd49 hil]
          refine Ev.bind hinb (Ev.neg eb (Ev.bind hino (Ev.neg eo (Ev.bind ht ?_))))
          rw [wrap_nat (by omega)]
          exact hr
  obtain ⟨r, hr, hrest⟩ := H0 a.length 0 [] (by omega) (asc_nil _) (by simp) (fun q => by unfold regAt; simp [look_nil])
  exact ⟨r, hr, hrest⟩
theorem regAt_kept (o a b : List S49) (q : Key) : regAt o a b a.length b.length q = (keptAlt (look keyA o q) (look keyA a q) (look keyA b q)).head? := by
  unfold regAt
  rw [List.take_length, List.take_length]
  cases look keyA o q <;> cases look keyA a q <;> cases look keyA b q <;> simp [keptAlt]
/-- The reference's register is what merge3.Merge does with a register's alternatives. -/
theorem register_is {o a b : List S49} (ho : o.length ≤ 400) (ha : a.length ≤ 400) (hb : b.length ≤ 400) (hoa : Asc keyA o) (haa : Asc keyA a) (hba : Asc keyA b) :
    Ev (fun k => semvcsref28_register.f k o a b) (mergeAltsP (pick3 o a b)) := by
  obtain ⟨r, hr, hs, hq⟩ := register_ev ho ha hb haa hba
  obtain ⟨h1, h2⟩ := mergeAlts_spec hoa haa hba
  rw [← asc_ext hs h1 (fun q => by rw [hq q, h2 q, regAt_kept])]
  exact hr
end Go.Proofs.Ytcecekmhikmkhaa.M
