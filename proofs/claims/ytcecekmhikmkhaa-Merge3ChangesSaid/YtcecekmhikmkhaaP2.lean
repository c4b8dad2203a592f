/- Plain facts: what merge3.Merge makes of three ascending states (its pure form), and what the reference's register makes of three ascending lists of alternatives. -/
import Derived.Test.YtcecekmhikmkhaaP1
import Derived.Test.YtcecekmhikmkhaaH9
namespace Go.Proofs.Ytcecekmhikmkhaa.M
open Go.RowKit Go.Proofs.YtcecekmhikmkhaaW.PrintWords Go.Proofs.YtcecekmhikmkhaaW.PrintLast Go.Proofs.YtcecekmhikmkhaaW.PrintMore
set_option linter.unusedVariables false
set_option linter.unusedSimpArgs false
def keyA (x : S49) : Key := (x.f0, 0)
def keyS (x : S53) : Key := (x.f0, x.f1)
def keyP (x : S36) : Key := (x.f0, x.f1)
theorem cmpA_key : Cmp keyA cmpA where
  lt x y := by unfold cmpA kl keyA; rw [cmpI_neg]; simp
  eq x y := by unfold cmpA keyA; rw [cmpI_zero]; simp
theorem cmpS_key : Cmp keyS cmpS where
  lt x y := by
    unfold cmpS kl keyS
    by_cases h : cmpI x.f0 y.f0 = 0
    · rw [if_pos h, cmpI_neg]; rw [cmpI_zero] at h; simp [h]
    · rw [if_neg h, cmpI_neg]; rw [cmpI_zero] at h; simp [h]
  eq x y := by
    unfold cmpS keyS
    by_cases h : cmpI x.f0 y.f0 = 0
    · rw [if_pos h, cmpI_zero]; rw [cmpI_zero] at h; simp [h]
    · rw [if_neg h]; rw [cmpI_zero] at h; simp [h, cmpI_zero]
theorem pick3_all {α : Type} {p : α → Prop} {a b c : α} (ha : p a) (hb : p b) (hc : p c) : ∀ i, p (pick3 a b c i)
  | 0 => ha
  | 1 => hb
  | _ + 2 => hc
theorem keptAlt_le (x y z : Option S49) : (keptAlt x y z).length ≤ 1 := by cases x <;> cases y <;> cases z <;> simp [keptAlt]
theorem keptAlt_mem {x y z : Option S49} {a : S49} (h : a ∈ keptAlt x y z) : y = some a ∨ z = some a := by cases x <;> cases y <;> cases z <;> simp [keptAlt] at h <;> simp [h]
theorem mergeAlts_spec {o x y : List S49} (ho : Asc keyA o) (hx : Asc keyA x) (hy : Asc keyA y) :
    Asc keyA (mergeAltsP (pick3 o x y)) ∧ ∀ q, look keyA (mergeAltsP (pick3 o x y)) q = (keptAlt (look keyA o q) (look keyA x q) (look keyA y q)).head? := by
  refine flat_spec cmpA_key (kb := keyA) (g := keptRow) (pick3_all ho hx hy) (fun q z hz => ?_) (fun r => keptAlt_le _ _ _) rfl
  rcases keptAlt_mem hz with h | h
  · exact (look_key h).1
  · exact (look_key h).1
/-- A state's registers ascend, and the alternatives in each. -/
structure Tidy (l : List S53) : Prop where
  asc : Asc keyS l
  alts : ∀ s ∈ l, Asc keyA s.f2
theorem tidy_alts {l : List S53} (h : Tidy l) (q : Key) : Asc keyA (altsO (look keyS l q)) := by
  cases hl : look keyS l q with
  | none => exact List.Pairwise.nil
  | some s => exact h.alts s (look_key hl).2
/-- The alternatives of a register. -/
def altsAt (l : List S53) (q : Key) : List S49 := altsO (look keyS l q)
def slotAt (q : Key) (l : List S49) : Option S53 := if l = [] then none else some ⟨q.1, q.2, l⟩
theorem firstS_key {l0 l1 l2 : List S53} {q : Key} (h : rowAt keyS (pick3 l0 l1 l2) q ≠ (none, none, none)) : keyS (firstS (rowAt keyS (pick3 l0 l1 l2) q)) = q := by
  unfold rowAt at *
  simp only [pick3] at *
  cases h0 : look keyS l0 q with
  | some s => exact (look_key h0).1
  | none =>
    cases h1 : look keyS l1 q with
    | some s => exact (look_key h1).1
    | none =>
      cases h2 : look keyS l2 q with
      | some s => exact (look_key h2).1
      | none => rw [h0, h1, h2] at h; exact absurd rfl h
theorem altsRow_at (l0 l1 l2 : List S53) (q : Key) : altsRow (rowAt keyS (pick3 l0 l1 l2) q) = pick3 (altsAt l0 q) (altsAt l1 q) (altsAt l2 q) := rfl
theorem kept_none : mergeAltsP (altsRow (none, none, none)) = [] := altsRow_none
theorem merge_spec {l0 l1 l2 : List S53} (h0 : Tidy l0) (h1 : Tidy l1) (h2 : Tidy l2) :
    Asc keyS (mergeP l0 l1 l2) ∧ ∀ q, look keyS (mergeP l0 l1 l2) q = slotAt q (mergeAltsP (pick3 (altsAt l0 q) (altsAt l1 q) (altsAt l2 q))) := by
  have hne : ∀ q, mergeAltsP (altsRow (rowAt keyS (pick3 l0 l1 l2) q)) ≠ [] → keyS (firstS (rowAt keyS (pick3 l0 l1 l2) q)) = q := fun q h => firstS_key fun e => h (by rw [e]; exact kept_none)
  have h := flat_spec cmpS_key (kb := keyS) (g := keptSlot) (L := pick3 l0 l1 l2) (pick3_all h0.asc h1.asc h2.asc) (fun q z hz => ?_) (fun r => ?_) (by unfold keptSlot; rw [if_pos kept_none])
  · refine ⟨h.1, fun q => ?_⟩
    have h3 := h.2 q
    show look keyS (mergeP l0 l1 l2) q = _
    unfold mergeP
    rw [h3]
    unfold keptSlot slotAt
    rw [altsRow_at]
    by_cases e : mergeAltsP (pick3 (altsAt l0 q) (altsAt l1 q) (altsAt l2 q)) = []
    · rw [if_pos e, if_pos e]; rfl
    · rw [if_neg e, if_neg e]
      have := hne q (by rw [altsRow_at]; exact e)
      simp only [List.head?_cons, Option.some.injEq, S53.mk.injEq, and_true]
      exact ⟨congrArg Prod.fst this, congrArg Prod.snd this⟩
  · unfold keptSlot at hz
    split at hz
    · cases hz
    · rename_i e
      simp only [List.mem_singleton] at hz
      subst hz
      exact hne q e
  · unfold keptSlot
    split <;> simp
/-! ### What is so from some number of rounds on -/
def Ev {α : Type} (f : Nat → Option α) (r : α) : Prop := ∃ K, ∀ k, K ≤ k → f k = some r
theorem Ev.const {α : Type} {f : Nat → Option α} {r : α} (h : ∀ k, f k = some r) : Ev f r := ⟨0, fun k _ => h k⟩
theorem Ev.step {α : Type} {f g : Nat → Option α} {r : α} (h : ∀ k, f (k + 1) = g k) (hg : Ev g r) : Ev f r := by
  obtain ⟨K, hK⟩ := hg
  refine ⟨K + 1, fun k hk => ?_⟩
  obtain ⟨k, rfl⟩ : ∃ m, k = m + 1 := ⟨k - 1, by omega⟩
  rw [h]
  exact hK k (by omega)
theorem Ev.bind {α β : Type} {f : Nat → Option α} {g : Nat → α → Option β} {a : α} {b : β} (hf : Ev f a) (hg : Ev (fun k => g k a) b) : Ev (fun k => (f k).bind (g k)) b := by
  obtain ⟨K, hK⟩ := hf
  obtain ⟨M, hM⟩ := hg
  refine ⟨max K M, fun k hk => ?_⟩
  show (f k).bind (g k) = some b
  rw [hK k (by omega)]
  exact hM k (by omega)
theorem Ev.congr {α : Type} {f g : Nat → Option α} {r : α} (h : ∀ k, f k = g k) (hg : Ev g r) : Ev f r := by
  obtain ⟨K, hK⟩ := hg
  exact ⟨K, fun k hk => (h k).trans (hK k hk)⟩
theorem Ev.pos {α : Type} {p : Prop} [Decidable p] {f g : Nat → Option α} {r : α} (h : p) (hf : Ev f r) : Ev (fun k => if p then f k else g k) r := Ev.congr (fun k => if_pos h) hf
theorem Ev.neg {α : Type} {p : Prop} [Decidable p] {f g : Nat → Option α} {r : α} (h : ¬ p) (hg : Ev g r) : Ev (fun k => if p then f k else g k) r := Ev.congr (fun k => if_neg h) hg
theorem wrap_nat {n : Nat} (h : n ≤ 1000000000) : wrap64 ((n : Int) + 1) = ((n + 1 : Nat) : Int) := by unfold wrap64; omega
theorem wrap_pred {n : Nat} (h : n ≤ 1000000000) : wrap64 (((n + 1 : Nat) : Int) - 1) = (n : Int) := by unfold wrap64; omega
theorem rd49 {l : List S49} {i : Nat} (h : i < l.length) : rd_T49 l (i : Int) = l[i] := by simp [rd_T49, List.getD_eq_getElem?_getD, List.getElem?_eq_getElem h]
theorem rd53 {l : List S53} {i : Nat} (h : i < l.length) : rd_T53 l (i : Int) = l[i] := by simp [rd_T53, List.getD_eq_getElem?_getD, List.getElem?_eq_getElem h]
theorem look_append {α : Type} (key : α → Key) (l m : List α) (q : Key) : look key (l ++ m) q = (look key l q).or (look key m q) := by
  unfold look
  rw [List.find?_append]
/-- A thing put at its place into an ascending list. -/
theorem asc_put {α : Type} {key : α → Key} {a b : List α} {x : α} (h : Asc key (a ++ b)) (ha : ∀ y ∈ a, kl (key y) (key x)) (hb : ∀ y ∈ b, kl (key x) (key y)) :
    Asc key (a ++ x :: b) ∧ ∀ q, look key (a ++ x :: b) q = if key x = q then some x else look key (a ++ b) q := by
  unfold Asc at *
  rw [List.pairwise_append] at h
  refine ⟨?_, fun q => ?_⟩
  · rw [List.pairwise_append, List.pairwise_cons]
    refine ⟨h.1, ⟨hb, h.2.1⟩, fun y hy z hz => ?_⟩
    rcases List.mem_cons.mp hz with rfl | hz
    · exact ha y hy
    · exact h.2.2 y hy z hz
  · rw [look_append, look_append, look_cons]
    by_cases e : key x = q
    · rw [if_pos e, if_pos e, look_none.mpr (fun y hy e' => kl_ne (ha y hy) (e'.trans e.symm))]
      rfl
    · rw [if_neg e, if_neg e]
theorem take_kl {l : List S49} (h : Asc keyA l) {i : Nat} {s : Int} (hi : i < l.length) (hs : l[i].f0 < s) : ∀ y ∈ l.take (i + 1), y.f0 < s := by
  intro y hy
  obtain ⟨j, hj, rfl⟩ := List.mem_take_iff_getElem.mp hy
  rcases Nat.lt_or_ge j i with hlt | hge
  · have := List.pairwise_iff_getElem.mp h j i (by omega) hi hlt
    unfold kl keyA at this
    simp at this
    omega
  · have : j = i := by omega
    subst this
    exact hs
end Go.Proofs.Ytcecekmhikmkhaa.M
