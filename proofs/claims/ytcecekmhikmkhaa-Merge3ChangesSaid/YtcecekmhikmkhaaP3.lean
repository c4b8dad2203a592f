/- Plain facts: the reference's Alts (its pure form) on ascending states. -/
import Derived.Test.YtcecekmhikmkhaaP2
import Derived.Test.YtcecekmhikmkhaaHn
import Derived.Test.YtcecekmhikmkhaaMx4
namespace Go.Proofs.Ytcecekmhikmkhaa.M
open Go.RowKit Go.Proofs.YtcecekmhikmkhaaW.PrintWords Go.Proofs.YtcecekmhikmkhaaW.PrintLast Go.Proofs.YtcecekmhikmkhaaW.PrintMore
set_option linter.unusedVariables false
set_option linter.unusedSimpArgs false
instance (a b : Key) : Decidable (kl a b) := by unfold kl; infer_instance
theorem ahead_ev (a b c d : Int) : semvcsref25_Ahead.f a b c d = some (decide (kl (a, b) (c, d))) := by
  unfold semvcsref25_Ahead.f
  by_cases h1 : a < c
  · rw [if_pos h1, decide_eq_true (show kl (a, b) (c, d) from .inl h1)]
  · by_cases h2 : a = c
    · rw [if_neg h1, if_pos h2]
      congr 1
      rw [decide_eq_decide]
      exact ⟨fun h => .inr ⟨h2, h⟩, fun h => h.elim (fun h => absurd h h1) (fun h => h.2)⟩
    · rw [if_neg h1, if_neg h2, decide_eq_false (show ¬ kl (a, b) (c, d) from fun h => h.elim h1 (fun h => h2 h.1))]
theorem mid_of {lo hi : Nat} (h : lo + hi ≤ 1000000) : wrap64 (Int.tdiv (wrap64 ((lo : Int) + (hi : Int))) 2) = (((lo + hi) / 2 : Nat) : Int) := by
  have e : wrap64 ((lo : Int) + (hi : Int)) = ((lo + hi : Nat) : Int) := by unfold wrap64; omega
  rw [e, show Int.tdiv ((lo + hi : Nat) : Int) 2 = (((lo + hi) / 2 : Nat) : Int) from rfl]
  unfold wrap64
  omega
theorem place_ev {l : List S53} (hl : l.length ≤ 1000) (h : Asc keyS l) (q : Key) :
    ∃ p : Nat, p ≤ l.length ∧ Ev (fun k => semvcsref25_place.f k l q.1 q.2) (p : Int) ∧ (∀ y ∈ l.take p, kl (keyS y) q) ∧ ∀ y ∈ l.drop p, ¬ kl (keyS y) q := by
  have H : ∀ (n lo hi : Nat), hi - lo ≤ n → lo ≤ hi → hi ≤ l.length → (∀ y ∈ l.take lo, kl (keyS y) q) → (∀ y ∈ l.drop hi, ¬ kl (keyS y) q) →
      ∃ p : Nat, p ≤ l.length ∧ Ev (fun k => semvcsref25_place.l0 k q.1 q.2 (lo : Int) (hi : Int) l) (p : Int) ∧ (∀ y ∈ l.take p, kl (keyS y) q) ∧ ∀ y ∈ l.drop p, ¬ kl (keyS y) q := by
    intro n
    induction n with
    | zero =>
      intro lo hi h1 h2 h3 h4 h5
      obtain rfl : lo = hi := by omega
      exact ⟨lo, h3, Ev.step (fun k => by rw [semvcsref25_place.l0]) (Ev.neg (by omega) (Ev.const fun k => rfl)), h4, h5⟩
    | succ n ih =>
      intro lo hi h1 h2 h3 h4 h5
      by_cases he : lo = hi
      · subst he
        exact ⟨lo, h3, Ev.step (fun k => by rw [semvcsref25_place.l0]) (Ev.neg (by omega) (Ev.const fun k => rfl)), h4, h5⟩
      · have hm : (lo + hi) / 2 < l.length := by omega
        have hA : semvcsref25_Ahead.f (l[(lo + hi) / 2]).f0 (l[(lo + hi) / 2]).f1 q.1 q.2 = some (decide (kl (keyS l[(lo + hi) / 2]) q)) := ahead_ev _ _ _ _
        by_cases e : kl (keyS l[(lo + hi) / 2]) q
        · obtain ⟨p, hp, hev, hrest⟩ := ih ((lo + hi) / 2 + 1) hi (by omega) (by omega) h3 (fun y hy => by
            obtain ⟨j, hj, rfl⟩ := List.mem_take_iff_getElem.mp hy
            rcases Nat.lt_or_ge j ((lo + hi) / 2) with hlt | hge
            · exact kl_tr (List.pairwise_iff_getElem.mp h j _ (by omega) hm hlt) e
            · have : j = (lo + hi) / 2 := by omega
              subst this
              exact e) h5
          refine ⟨p, hp, Ev.step (fun k => by rw [semvcsref25_place.l0]) (Ev.pos (by omega) ?_), hrest⟩
          rw [mid_of (by omega), rd53 hm]
          refine Ev.pos (by omega) (Ev.pos (by omega) (Ev.bind (Ev.const fun k => hA) ?_))
          rw [decide_eq_true e, wrap_nat (by omega)]
          exact Ev.pos rfl hev
        · obtain ⟨p, hp, hev, hrest⟩ := ih lo ((lo + hi) / 2) (by omega) (by omega) (by omega) h4 (fun y hy => by
            obtain ⟨j, hj, rfl⟩ := List.mem_drop_iff_getElem.mp hy
            rcases Nat.lt_or_ge 0 j with hlt | hge
            · exact fun hk => e (kl_tr (List.pairwise_iff_getElem.mp h _ _ hm (by omega) (by omega)) hk)
            · have : j = 0 := by omega
              subst this
              exact e)
          refine ⟨p, hp, Ev.step (fun k => by rw [semvcsref25_place.l0]) (Ev.pos (by omega) ?_), hrest⟩
          rw [mid_of (by omega), rd53 hm]
          refine Ev.pos (by omega) (Ev.pos (by omega) (Ev.bind (Ev.const fun k => hA) ?_))
          rw [decide_eq_false e]
          exact Ev.neg (by simp) hev
  exact H l.length 0 l.length (by omega) (by omega) (Nat.le_refl _) (fun y hy => by simp at hy) (fun y hy => by simp at hy)
/-- What stands at a key, by the place at which it would stand. -/
theorem look_place {l : List S53} (h : Asc keyS l) {q : Key} {p : Nat} (ht : ∀ y ∈ l.take p, kl (keyS y) q) (hd : ∀ y ∈ l.drop p, ¬ kl (keyS y) q) :
    (∃ hp : p < l.length, keyS l[p] = q ∧ look keyS l q = some l[p]) ∨ (look keyS l q = none ∧ (∀ hp : p < l.length, keyS l[p] ≠ q) ∧ ∀ y ∈ l.drop p, kl q (keyS y)) := by
  have e1 : look keyS l q = look keyS (l.drop p) q := by
    have := look_append keyS (l.take p) (l.drop p) q
    rw [List.take_append_drop] at this
    rw [this, look_none.mpr (fun y hy => kl_ne (ht y hy))]
    rfl
  by_cases hp : p < l.length
  · have e2 : l.drop p = l[p] :: l.drop (p + 1) := List.drop_eq_getElem_cons hp
    by_cases e : keyS l[p] = q
    · refine .inl ⟨hp, e, ?_⟩
      rw [e1, e2, look_cons, if_pos e]
    · have hall : ∀ y ∈ l.drop p, kl q (keyS y) := fun y hy => by
        rcases kl_three q (keyS y) with h1 | h1 | h1
        · exact h1
        · exfalso
          rw [e2] at hy
          have hg : kl q (keyS l[p]) := by
            rcases kl_three q (keyS l[p]) with h2 | h2 | h2
            · exact h2
            · exact absurd h2.symm e
            · exact absurd h2 (hd _ (by rw [e2]; exact List.mem_cons_self))
          rcases List.mem_cons.mp hy with rfl | hy
          · exact e h1.symm
          · have hpw : Asc keyS (l[p] :: l.drop (p + 1)) := by rw [← e2]; exact List.Pairwise.sublist (List.drop_sublist _ _) h
            have := (asc_cons.mp hpw).1 y hy
            rw [← h1] at this
            exact kl_irr _ (kl_tr hg this)
        · exact absurd h1 (hd y hy)
      refine .inr ⟨?_, fun _ => e, hall⟩
      rw [e1]
      exact look_none.mpr fun y hy e' => kl_ne (hall y hy) e'.symm
  · have e2 : l.drop p = [] := List.drop_of_length_le (by omega)
    refine .inr ⟨by rw [e1, e2]; rfl, fun h => absurd h hp, fun y hy => by rw [e2] at hy; cases hy⟩
theorem alts_ev {l : List S53} (hl : l.length ≤ 1000) (h : Asc keyS l) (q : Key) : Ev (fun k => semvcsref25_Alts.f k l q.1 q.2) (altsAt l q) := by
  obtain ⟨p, hp, hev, ht, hd⟩ := place_ev hl h q
  refine Ev.bind hev ?_
  unfold altsAt
  rcases look_place h ht hd with ⟨hlt, e, hlook⟩ | ⟨hlook, hne, _⟩
  · rw [hlook, rd53 hlt]
    refine Ev.pos (by omega) (Ev.pos (by omega) (Ev.pos (congrArg Prod.fst e) (Ev.step (fun k => by rw [semvcsref25_Alts.j0]) ?_)))
    rw [rd53 hlt]
    exact Ev.pos (by have := congrArg Prod.snd e; simpa [keyS] using this) (Ev.pos (by omega) (Ev.pos (by omega) (Ev.const fun k => rfl)))
  · rw [hlook]
    show Ev _ ([] : List S49)
    by_cases hlt : p < l.length
    · rw [rd53 hlt]
      have hk := hne hlt
      refine Ev.pos (by omega) (Ev.pos (by omega) ?_)
      by_cases e0 : l[p].f0 = q.1
      · refine Ev.pos e0 (Ev.step (fun k => by rw [semvcsref25_Alts.j0]) (Ev.neg ?_ (Ev.const fun k => rfl)))
        intro e1
        exact hk (key_ext e0 (eq_of_beq e1))
      · exact Ev.neg e0 (Ev.step (fun k => by rw [semvcsref25_Alts.j0]) (Ev.neg (by simp) (Ev.const fun k => rfl)))
    · exact Ev.neg (by omega) (Ev.step (fun k => by rw [semvcsref25_Alts.j0]) (Ev.neg (by simp) (Ev.const fun k => rfl)))
theorem aheadB_kl (x y : S53) : aheadB x y = decide (kl (keyS x) (keyS y)) := by
  rw [Bool.eq_iff_iff, decide_eq_true_iff]
  unfold aheadB kl keyS
  simp
theorem tidy_altsAt {l : List S53} (h : Tidy l) (q : Key) : Asc keyA (altsAt l q) := tidy_alts h q
/-- Lists of alternatives short enough for what the reference does with them. -/
def Small (n : Nat) (l : List S53) : Prop := l.length ≤ n ∧ ∀ s ∈ l, s.f2.length ≤ n
theorem small_alts {n : Nat} {l : List S53} (h : Small n l) (q : Key) : (altsAt l q).length ≤ n := by
  unfold altsAt
  cases e : look keyS l q with
  | none => exact Nat.zero_le _
  | some s => exact h.2 s (look_key e).2
theorem tidy_nil : Tidy [] := ⟨List.Pairwise.nil, fun s hs => by cases hs⟩
end Go.Proofs.Ytcecekmhikmkhaa.M
