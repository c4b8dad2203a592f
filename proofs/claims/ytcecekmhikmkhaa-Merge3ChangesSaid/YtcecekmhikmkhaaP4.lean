/- Plain facts: the states that the statements' inputs lead to (semvcsmade2.State, its pure form): at most 40 registers, ascending, with at most 40 ascending alternatives each. -/
import Derived.Test.YtcecekmhikmkhaaP3
import Derived.Test.YtcecekmhikmkhaaMx6
import Derived.Test.YtcecekmhikmkhaaMx8
namespace Go.Proofs.Ytcecekmhikmkhaa.M
open Go.RowKit Go.Proofs.YtcecekmhikmkhaaW.PrintWords Go.Proofs.YtcecekmhikmkhaaW.PrintLast Go.Proofs.YtcecekmhikmkhaaW.PrintMore
set_option linter.unusedVariables false
set_option linter.unusedSimpArgs false
/-- A state of which all is bounded by n, with P at each alternative. -/
structure Good (P : Int → Int → S49 → Prop) (n : Nat) (l : List S53) : Prop where
  tidy : Tidy l
  len : l.length ≤ n
  alts : ∀ s ∈ l, s.f2.length ≤ n ∧ s.f2 ≠ [] ∧ ∀ a ∈ s.f2, P s.f0 s.f1 a
variable {P : Int → Int → S49 → Prop}
theorem Good.small {n m : Nat} {l : List S53} (h : Good P n l) (hm : n ≤ m) : Small m l := ⟨by have := h.len; omega, fun s hs => by have := (h.alts s hs).1; omega⟩
theorem Good.mono {n m : Nat} {l : List S53} (h : Good P n l) (hm : n ≤ m) : Good P m l := ⟨h.tidy, by have := h.len; omega, fun s hs => ⟨by have := (h.alts s hs).1; omega, (h.alts s hs).2⟩⟩
theorem good_altsAt {n : Nat} {l : List S53} (h : Good P n l) (q : Key) : (altsAt l q).length ≤ n ∧ ∀ a ∈ altsAt l q, P q.1 q.2 a := by
  unfold altsAt
  cases e : look keyS l q with
  | none => exact ⟨Nat.zero_le _, fun a ha => by cases ha⟩
  | some s =>
    obtain ⟨h1, h2⟩ := look_key e
    have h3 := h.alts s h2
    refine ⟨h3.1, fun a ha => ?_⟩
    rw [← h1]
    exact h3.2.2 a ha
theorem mem_take_drop {α : Type} {l : List α} {p q : Nat} {x : α} (h : x ∈ l.take p ++ l.drop q) : x ∈ l := by
  rcases List.mem_append.mp h with h | h
  · exact List.mem_of_mem_take h
  · exact List.mem_of_mem_drop h
theorem take_drop_sub {α : Type} (l : List α) {p q : Nat} (h : p ≤ q) : (l.take p ++ l.drop q).Sublist l := by
  have h1 : (l.drop q).Sublist (l.drop p) := by
    rw [show q = p + (q - p) by omega, ← List.drop_drop]
    exact List.drop_sublist _ _
  have h2 := List.Sublist.append (List.Sublist.refl (l.take p)) h1
  rwa [List.take_append_drop] at h2
/-- The reference's Set: a register's alternatives, put at its place. -/
theorem set_ev {l : List S53} (hl : l.length ≤ 1000) (h : Asc keyS l) (q : Key) (n : List S49) (hn : n ≠ []) :
    ∃ r, Ev (fun k => semvcsref25_Set.f k l q.1 q.2 n) r ∧ Asc keyS r ∧ r.length ≤ l.length + 1 ∧ (∀ s ∈ r, s ∈ l ∨ s = ⟨q.1, q.2, n⟩) := by
  obtain ⟨p, hp, hev, ht, hd⟩ := place_ev hl h q
  have hnl : (n.length : Int) > 0 := by have := List.length_pos_iff.mpr hn; omega
  have fin : ∀ p' : Nat, p ≤ p' → p' ≤ l.length → p' ≤ p + 1 → (∀ y ∈ l.drop p', kl q (keyS y)) → Asc keyS (l.take p ++ ⟨q.1, q.2, n⟩ :: l.drop p') ∧ (l.take p ++ (⟨q.1, q.2, n⟩ : S53) :: l.drop p').length ≤ l.length + 1 ∧ ∀ s ∈ l.take p ++ (⟨q.1, q.2, n⟩ : S53) :: l.drop p', s ∈ l ∨ s = ⟨q.1, q.2, n⟩ := by
    intro p' h1 h2 h3 h4
    have ha : Asc keyS (l.take p ++ l.drop p') := List.Pairwise.sublist (take_drop_sub l h1) h
    refine ⟨(asc_put (x := (⟨q.1, q.2, n⟩ : S53)) ha ht h4).1, ?_, fun s hs => ?_⟩
    · simp only [List.length_append, List.length_cons, List.length_take, List.length_drop]
      omega
    · rcases List.mem_append.mp hs with hs | hs
      · exact .inl (List.mem_of_mem_take hs)
      · rcases List.mem_cons.mp hs with rfl | hs
        · exact .inr rfl
        · exact .inl (List.mem_of_mem_drop hs)
  have hj2 : ∀ p' : Nat, p' ≤ l.length → Ev (fun k => semvcsref25_Set.j2 k (p' : Int) (l.take p ++ [⟨q.1, q.2, n⟩]) l) (l.take p ++ ⟨q.1, q.2, n⟩ :: l.drop p') := fun p' hp' => by
    refine Ev.step (fun k => by rw [semvcsref25_Set.j2]) (Ev.pos (by omega) (Ev.pos (by omega) (Ev.const fun k => ?_)))
    rw [Option.bind_some, Int.toNat_natCast, if_pos (by simp only [List.length_append, List.length_take, List.length_drop, List.length_singleton]; omega), List.append_assoc]
    rfl
  have hpre : ∀ r, Ev (fun k => semvcsref25_Set.j0 k q.1 q.2 (p : Int) (l.take p ++ [⟨q.1, q.2, n⟩]) l) r → Ev (fun k => semvcsref25_Set.f k l q.1 q.2 n) r := fun r hr => by
    refine Ev.bind hev ?_
    simp only [Option.bind_some, Int.toNat_natCast, List.nil_append]
    refine Ev.pos (by omega) (Ev.pos (by omega) (Ev.pos (by simp only [List.length_nil, List.length_take]; omega) (Ev.pos hnl (Ev.pos (by simp only [List.length_take]; omega) hr))))
  rcases look_place h ht hd with ⟨hlt, e, hlook⟩ | ⟨hlook, hne, hall⟩
  · have hgt : ∀ y ∈ l.drop (p + 1), kl q (keyS y) := fun y hy => by
      have hpw : Asc keyS (l[p] :: l.drop (p + 1)) := by rw [← List.drop_eq_getElem_cons hlt]; exact List.Pairwise.sublist (List.drop_sublist _ _) h
      rw [← e]
      exact (asc_cons.mp hpw).1 y hy
    refine ⟨_, hpre _ (Ev.step (fun k => by rw [semvcsref25_Set.j0]) ?_), fin (p + 1) (by omega) (by omega) (by omega) hgt⟩
    rw [rd53 hlt]
    refine Ev.pos (by omega) (Ev.pos (by omega) (Ev.pos (congrArg Prod.fst e) (Ev.step (fun k => by rw [semvcsref25_Set.j1]) (Ev.pos (by rw [show l[p].f1 = q.2 from congrArg Prod.snd e]; exact beq_self_eq_true _) ?_))))
    rw [wrap_nat (by omega)]
    exact hj2 (p + 1) (by omega)
  · refine ⟨_, hpre _ (Ev.step (fun k => by rw [semvcsref25_Set.j0]) ?_), fin p (Nat.le_refl _) hp (by omega) hall⟩
    by_cases hlt : p < l.length
    · have hk := hne hlt
      rw [rd53 hlt]
      refine Ev.pos (by omega) (Ev.pos (by omega) ?_)
      by_cases e0 : l[p].f0 = q.1
      · refine Ev.pos e0 (Ev.step (fun k => by rw [semvcsref25_Set.j1]) (Ev.neg (show ¬ ((l[p].f1 == q.2) = true) from fun e1 => hk (key_ext e0 (eq_of_beq e1))) (hj2 p hp)))
      · exact Ev.neg e0 (Ev.step (fun k => by rw [semvcsref25_Set.j1]) (Ev.neg (fun h => by cases h) (hj2 p hp)))
    · exact Ev.neg (by omega) (Ev.step (fun k => by rw [semvcsref25_Set.j1]) (Ev.neg (fun h => by cases h) (hj2 p hp)))
/-! ### State -/
/-- What a mark's numbers are turned into, and P at it. -/
def MarkOk (P : Int → Int → S49 → Prop) (m : S44) : Prop := ∃ id fd st v1 v2 v3 v4, semvcsmade2_Id.f m.f0 3 = some id ∧ semvcsmade2_fields.f m.f1 = some fd ∧ semvcsmade2_Id.f m.f2 4 = some st ∧ semvcsmade2_Value.f id fd st = some (v1, v2, v3, v4) ∧ P id fd ⟨st, ⟨v1, v2, v3, v4⟩⟩
theorem rd44 {l : List S44} {i : Nat} (h : i < l.length) : rd_T44 l (i : Int) = l[i] := by simp [rd_T44, List.getD_eq_getElem?_getD, List.getElem?_eq_getElem h]
theorem state_ev (hP : ∀ m, MarkOk P m) (l : List S44) : ∃ r, Ev (fun k => semvcsmade2_State.f k l) r ∧ Good P 40 r := by
  have H : ∀ (d i : Nat) (s : List S53), i + d = 40 → Good P i s → ∃ r, Ev (fun k => semvcsmade2_State.l0 k l (i : Int) s) r ∧ Good P 40 r := by
    intro d
    induction d with
    | zero =>
      intro i s hi hs
      have hstop : Ev (fun k => semvcsmade2_State.j1 k l (i : Int) false s) s := Ev.step (fun k => by rw [semvcsmade2_State.j1]) (Ev.neg (fun h => by cases h) (Ev.const fun k => rfl))
      refine ⟨s, Ev.step (fun k => by rw [semvcsmade2_State.l0]) ?_, hs.mono (by omega)⟩
      rw [decide_eq_false (show ¬ (i : Int) < 40 by omega)]
      by_cases h : (i : Int) < (l.length : Int)
      · exact Ev.pos h hstop
      · exact Ev.neg h hstop
    | succ d ih =>
      intro i s hi hs
      by_cases h : i < l.length
      · obtain ⟨id, fd, st, v1, v2, v3, v4, m1, m2, m3, m4, m5⟩ := hP l[i]
        obtain ⟨ha1, ha2⟩ := good_altsAt hs (id, fd)
        have haa := tidy_altsAt hs.tidy (id, fd)
        have hal := alts_ev (l := s) (by have := hs.len; omega) hs.tidy.asc (id, fd)
        have hskip : ∃ r, Ev (fun k => semvcsmade2_State.l0 k l ((i + 1 : Nat) : Int) s) r ∧ Good P 40 r := ih (i + 1) s (by omega) (hs.mono (by omega))
        -- the loop that seeks the stamp's place
        have L1 : ∀ (e j : Nat), j + e = (altsAt s (id, fd)).length → (∀ y ∈ (altsAt s (id, fd)).take j, y.f0 < st) →
            ∃ r, Ev (fun k => semvcsmade2_State.l1 k l (i : Int) id fd st (altsAt s (id, fd)) (j : Int) s) r ∧ Good P 40 r := by
          generalize hold : altsAt s (id, fd) = old at ha1 ha2 haa
          -- a new alternative at place j
          have hput : ∀ j : Nat, j ≤ old.length → (∀ y ∈ old.take j, y.f0 < st) → (∀ y ∈ old.drop j, st < y.f0) → ∃ r, Ev (fun k => semvcsmade2_State.j4 k l (i : Int) id fd st old (j : Int) false s) r ∧ Good P 40 r := by
            intro j hj ht hd
            obtain ⟨hp1, _⟩ := asc_put (key := keyA) (a := old.take j) (b := old.drop j) (x := (⟨st, ⟨v1, v2, v3, v4⟩⟩ : S49)) (by rw [List.take_append_drop]; exact haa) (fun y hy => .inl (ht y hy)) (fun y hy => .inl (hd y hy))
            obtain ⟨t, t1, t2, t3, t4⟩ := set_ev (l := s) (by have := hs.len; omega) hs.tidy.asc (id, fd) (old.take j ++ ⟨st, ⟨v1, v2, v3, v4⟩⟩ :: old.drop j) (by simp)
            have hg : Good P (i + 1) t := by
              refine ⟨⟨t2, fun x hx => ?_⟩, by have := hs.len; omega, fun x hx => ?_⟩
              · rcases t4 x hx with h | rfl
                · exact hs.tidy.alts x h
                · exact hp1
              · rcases t4 x hx with h | rfl
                · have := hs.alts x h
                  exact ⟨by omega, this.2⟩
                · refine ⟨?_, by simp, fun a ha => ?_⟩
                  · simp only [List.length_append, List.length_cons, List.length_take, List.length_drop]
                    omega
                  · rcases List.mem_append.mp ha with ha | ha
                    · exact ha2 a (List.mem_of_mem_take ha)
                    · rcases List.mem_cons.mp ha with rfl | ha
                      · exact m5
                      · exact ha2 a (List.mem_of_mem_drop ha)
            obtain ⟨r, r1, r2⟩ := ih (i + 1) t (by omega) hg
            refine ⟨r, Ev.step (fun k => by rw [semvcsmade2_State.j4]) (Ev.neg (fun h => by cases h) ?_), r2⟩
            simp only [Option.bind_some, Int.toNat_natCast, List.nil_append, m4]
            refine Ev.pos (by omega) (Ev.pos (by omega) (Ev.pos (by simp only [List.length_nil, List.length_take]; omega) (Ev.pos (by simp only [List.length_take]; omega) (Ev.pos (by simp only [List.length_append, List.length_take, List.length_drop, List.length_singleton]; omega) ?_))))
            rw [wrap_nat (by omega), List.append_assoc]
            exact Ev.bind t1 r1
          have hj3 : ∀ j : Nat, j ≤ old.length → (∀ y ∈ old.take j, y.f0 < st) → (∀ hj : j < old.length, ¬ old[j].f0 < st) → ∃ r, Ev (fun k => semvcsmade2_State.j3 k l (i : Int) id fd st old (j : Int) s) r ∧ Good P 40 r := by
            intro j hj ht hn
            by_cases hjl : j < old.length
            · by_cases e : old[j].f0 = st
              · obtain ⟨r, r1, r2⟩ := hskip
                refine ⟨r, Ev.step (fun k => by rw [semvcsmade2_State.j3]) (Ev.pos (by omega) (Ev.pos (by omega) ?_)), r2⟩
                rw [rd49 hjl, show (old[j].f0 == st) = true by rw [e]; exact beq_self_eq_true _]
                refine Ev.step (fun k => by rw [semvcsmade2_State.j4]) (Ev.pos rfl ?_)
                rw [wrap_nat (by omega)]
                exact r1
              · obtain ⟨r, r1, r2⟩ := hput j hj ht (fun y hy => by
                  obtain ⟨m, hm, rfl⟩ := List.mem_drop_iff_getElem.mp hy
                  have h0 := hn hjl
                  rcases Nat.lt_or_ge 0 m with hlt | hge
                  · have := List.pairwise_iff_getElem.mp haa j (j + m) hjl (by omega) (by omega)
                    unfold kl keyA at this
                    simp at this
                    omega
                  · have : m = 0 := by omega
                    subst this
                    simp only [Nat.add_zero]
                    omega)
                refine ⟨r, Ev.step (fun k => by rw [semvcsmade2_State.j3]) (Ev.pos (by omega) (Ev.pos (by omega) ?_)), r2⟩
                rw [rd49 hjl, show (old[j].f0 == st) = false by simpa using e]
                exact r1
            · obtain ⟨r, r1, r2⟩ := hput j hj ht (fun y hy => by rw [List.drop_of_length_le (by omega)] at hy; cases hy)
              exact ⟨r, Ev.step (fun k => by rw [semvcsmade2_State.j3]) (Ev.neg (by omega) r1), r2⟩
          intro e
          induction e with
          | zero =>
            intro j hj ht
            obtain ⟨r, r1, r2⟩ := hj3 j (by omega) ht (fun h => by omega)
            exact ⟨r, Ev.step (fun k => by rw [semvcsmade2_State.l1]) (Ev.neg (by omega) r1), r2⟩
          | succ e ihe =>
            intro j hj ht
            have hjl : j < old.length := by omega
            by_cases hlt : old[j].f0 < st
            · obtain ⟨r, r1, r2⟩ := ihe (j + 1) (by omega) (take_kl haa hjl hlt)
              refine ⟨r, Ev.step (fun k => by rw [semvcsmade2_State.l1]) (Ev.pos (by omega) (Ev.pos (by omega) ?_)), r2⟩
              rw [rd49 hjl, wrap_nat (by omega)]
              exact Ev.pos hlt r1
            · obtain ⟨r, r1, r2⟩ := hj3 j (by omega) ht (fun _ => hlt)
              refine ⟨r, Ev.step (fun k => by rw [semvcsmade2_State.l1]) (Ev.pos (by omega) (Ev.pos (by omega) ?_)), r2⟩
              rw [rd49 hjl]
              exact Ev.neg hlt r1
        obtain ⟨r, r1, r2⟩ := L1 _ 0 (Nat.zero_add _) (fun y hy => by simp at hy)
        refine ⟨r, Ev.step (fun k => by rw [semvcsmade2_State.l0]) (Ev.pos (by omega) ?_), r2⟩
        rw [decide_eq_true (show (i : Int) < 40 by omega)]
        refine Ev.step (fun k => by rw [semvcsmade2_State.j1]) (Ev.pos rfl (Ev.pos (by omega) (Ev.pos (by omega) ?_)))
        simp only [rd44 h, m1, m2, m3, Option.bind_some]
        exact Ev.bind hal r1
      · refine ⟨s, Ev.step (fun k => by rw [semvcsmade2_State.l0]) (Ev.neg (by omega) (Ev.step (fun k => by rw [semvcsmade2_State.j1]) (Ev.neg (fun h => by cases h) (Ev.const fun k => rfl)))), hs.mono (by omega)⟩
  exact H 40 0 [] (by omega) ⟨tidy_nil, Nat.le_refl _, fun s hs => by cases hs⟩
/-! ### Same -/
theorem sameAlts_refl {l : List S49} (hl : l.length ≤ 1000) : Ev (fun k => semvcsref25_SameAlts.f k l l) true := by
  have H : ∀ (d i : Nat), i + d = l.length → Ev (fun k => semvcsref25_SameAlts.l0 k l l (i : Int)) true := by
    intro d
    induction d with
    | zero => intro i hi; exact Ev.step (fun k => by rw [semvcsref25_SameAlts.l0]) (Ev.neg (by omega) (Ev.const fun k => rfl))
    | succ d ih =>
      intro i hi
      refine Ev.step (fun k => by rw [semvcsref25_SameAlts.l0]) (Ev.pos (by omega) (Ev.pos (by omega) (Ev.pos (by omega) (Ev.neg (by simp) ?_))))
      rw [wrap_nat (by omega)]
      exact ih (i + 1) (by omega)
  exact Ev.pos rfl (H l.length 0 (by omega))
theorem same_refl {l : List S53} (hs : Small 1000 l) : Ev (fun k => semvcsref25_Same.f k l l) true := by
  have H : ∀ (d i : Nat), i + d = l.length → Ev (fun k => semvcsref25_Same.l0 k (i : Int) l l) true := by
    intro d
    induction d with
    | zero => intro i hi; exact Ev.step (fun k => by rw [semvcsref25_Same.l0]) (Ev.neg (by omega) (Ev.const fun k => rfl))
    | succ d ih =>
      intro i hi
      have hil : i < l.length := by omega
      refine Ev.step (fun k => by rw [semvcsref25_Same.l0]) (Ev.pos (by omega) (Ev.pos (by omega) (Ev.pos (by omega) (Ev.pos rfl (Ev.pos rfl (Ev.bind (a := true) ?_ ?_))))))
      · rw [rd53 hil]
        exact sameAlts_refl (hs.2 _ (List.getElem_mem hil))
      · refine Ev.step (fun k => by rw [semvcsref25_Same.j1]) (Ev.neg (by simp) ?_)
        rw [wrap_nat (by have := hs.1; omega)]
        exact ih (i + 1) (by omega)
  exact Ev.pos rfl (H l.length 0 (by omega))
end Go.Proofs.Ytcecekmhikmkhaa.M
