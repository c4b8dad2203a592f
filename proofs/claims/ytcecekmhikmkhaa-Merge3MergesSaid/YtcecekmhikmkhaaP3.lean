/- Plain facts: the reference's Alts and Merge (their pure forms) on ascending states; they are what merge3.Merge returns. -/
import Derived.Test.YtcecekmhikmkhaaP2
import Derived.Test.YtcecekmhikmkhaaHa
namespace Go.Proofs.Ytcecekmhikmkhaa.M
open Go.RowKit Go.Proofs.YtcecekmhikmkhaaW.PrintWords Go.Proofs.YtcecekmhikmkhaaW.PrintLast Go.Proofs.YtcecekmhikmkhaaW.PrintMore
set_option linter.unusedVariables false
set_option linter.unusedSimpArgs false
instance (a b : Key) : Decidable (kl a b) := by unfold kl; infer_instance
theorem ahead_ev (a b c d : Int) : semvcsref25_Ahead.f a b c d = some (decide (kl (a, b) (c, d))) := by
  unfold semvcsref25_Ahead.f
  by_cases h1 : a < c
  · rw [if_pos h1, decide_eq_true (show kl (a, b) (c, d) from .inl h1)]
  · by_cases h2 : a = c
    · rw [if_neg h1, if_pos h2]
      congr 1
      rw [decide_eq_decide]
      exact ⟨fun h => .inr ⟨h2, h⟩, fun h => h.elim (fun h => absurd h h1) (fun h => h.2)⟩
    · rw [if_neg h1, if_neg h2, decide_eq_false (show ¬ kl (a, b) (c, d) from fun h => h.elim h1 (fun h => h2 h.1))]
theorem mid_of {lo hi : Nat} (h : lo + hi ≤ 1000000) : wrap64 (Int.tdiv (wrap64 ((lo : Int) + (hi : Int))) 2) = (((lo + hi) / 2 : Nat) : Int) := by
  have e : wrap64 ((lo : Int) + (hi : Int)) = ((lo + hi : Nat) : Int) := by unfold wrap64; omega
  rw [e, show Int.tdiv ((lo + hi : Nat) : Int) 2 = (((lo + hi) / 2 : Nat) : Int) from rfl]
  unfold wrap64
  omega
theorem place_ev {l : List S53} (hl : l.length ≤ 1000) (h : Asc keyS l) (q : Key) :
    ∃ p : Nat, p ≤ l.length ∧ Ev (fun k => semvcsref25_place.f k l q.1 q.2) (p : Int) ∧ (∀ y ∈ l.take p, kl (keyS y) q) ∧ ∀ y ∈ l.drop p, ¬ kl (keyS y) q := by
  have H : ∀ (n lo hi : Nat), hi - lo ≤ n → lo ≤ hi → hi ≤ l.length → (∀ y ∈ l.take lo, kl (keyS y) q) → (∀ y ∈ l.drop hi, ¬ kl (keyS y) q) →
      ∃ p : Nat, p ≤ l.length ∧ Ev (fun k => semvcsref25_place.l0 k q.1 q.2 (lo : Int) (hi : Int) l) (p : Int) ∧ (∀ y ∈ l.take p, kl (keyS y) q) ∧ ∀ y ∈ l.drop p, ¬ kl (keyS y) q := by
    intro n
    induction n with
    | zero =>
      intro lo hi h1 h2 h3 h4 h5
      obtain rfl : lo = hi := by omega
      exact ⟨lo, h3, Ev.step (fun k => by rw [semvcsref25_place.l0]) (Ev.neg (by omega) (Ev.const fun k => rfl)), h4, h5⟩
    | succ n ih =>
      intro lo hi h1 h2 h3 h4 h5
      by_cases he : lo = hi
      · subst he
        exact ⟨lo, h3, Ev.step (fun k => by rw [semvcsref25_place.l0]) (Ev.neg (by omega) (Ev.const fun k => rfl)), h4, h5⟩
      · have hm : (lo + hi) / 2 < l.length := by omega
        have hA : semvcsref25_Ahead.f (l[(lo + hi) / 2]).f0 (l[(lo + hi) / 2]).f1 q.1 q.2 = some (decide (kl (keyS l[(lo + hi) / 2]) q)) := ahead_ev _ _ _ _
        by_cases e : kl (keyS l[(lo + hi) / 2]) q
        · obtain ⟨p, hp, hev, hrest⟩ := ih ((lo + hi) / 2 + 1) hi (by omega) (by omega) h3 (fun y hy => by
            obtain ⟨j, hj, rfl⟩ := List.mem_take_iff_getElem.mp hy
            rcases Nat.lt_or_ge j ((lo + hi) / 2) with hlt | hge
            · exact kl_tr (List.pairwise_iff_getElem.mp h j _ (by omega) hm hlt) e
            · have : j = (lo + hi) / 2 := by omega
              subst this
              exact e) h5
          refine ⟨p, hp, Ev.step (fun k => by rw [semvcsref25_place.l0]) (Ev.pos (by omega) ?_), hrest⟩
          rw [mid_of (by omega), rd53 hm]
          refine Ev.pos (by omega) (Ev.pos (by omega) (Ev.bind (Ev.const fun k => hA) ?_))
          rw [decide_eq_true e, wrap_nat (by omega)]
          exact Ev.pos rfl hev
        · obtain ⟨p, hp, hev, hrest⟩ := ih lo ((lo + hi) / 2) (by omega) (by omega) (by omega) h4 (fun y hy => by
            obtain ⟨j, hj, rfl⟩ := List.mem_drop_iff_getElem.mp hy
            rcases Nat.lt_or_ge 0 j with hlt | hge
            · exact fun hk => e (kl_tr (List.pairwise_iff_getElem.mp h _ _ hm (by omega) (by omega)) hk)
            · have : j = 0 := by omega
              subst this
              exact e)
          refine ⟨p, hp, Ev.step (fun k => by rw [semvcsref25_place.l0]) (Ev.pos (by omega) ?_), hrest⟩
          rw [mid_of (by omega), rd53 hm]
          refine Ev.pos (by omega) (Ev.pos (by omega) (Ev.bind (Ev.const fun k => hA) ?_))
          rw [decide_eq_false e]
          exact Ev.neg (by simp) hev
  exact H l.length 0 l.length (by omega) (by omega) (Nat.le_refl _) (fun y hy => by simp at hy) (fun y hy => by simp at hy)
/-- What stands at a key, by the place at which it would stand. -/
theorem look_place {l : List S53} (h : Asc keyS l) {q : Key} {p : Nat} (ht : ∀ y ∈ l.take p, kl (keyS y) q) (hd : ∀ y ∈ l.drop p, ¬ kl (keyS y) q) :
    (∃ hp : p < l.length, keyS l[p] = q ∧ look keyS l q = some l[p]) ∨ (look keyS l q = none ∧ (∀ hp : p < l.length, keyS l[p] ≠ q) ∧ ∀ y ∈ l.drop p, kl q (keyS y)) := by
  have e1 : look keyS l q = look keyS (l.drop p) q := by
    have := look_append keyS (l.take p) (l.drop p) q
    rw [List.take_append_drop] at this
    rw [this, look_none.mpr (fun y hy => kl_ne (ht y hy))]
    rfl
  by_cases hp : p < l.length
  · have e2 : l.drop p = l[p] :: l.drop (p + 1) := List.drop_eq_getElem_cons hp
    by_cases e : keyS l[p] = q
    · refine .inl ⟨hp, e, ?_⟩
      rw [e1, e2, look_cons, if_pos e]
    · have hall : ∀ y ∈ l.drop p, kl q (keyS y) := fun y hy => by
        rcases kl_three q (keyS y) with h1 | h1 | h1
        · exact h1
        · exfalso
          rw [e2] at hy
          have hg : kl q (keyS l[p]) := by
            rcases kl_three q (keyS l[p]) with h2 | h2 | h2
            · exact h2
            · exact absurd h2.symm e
            · exact absurd h2 (hd _ (by rw [e2]; exact List.mem_cons_self))
          rcases List.mem_cons.mp hy with rfl | hy
          · exact e h1.symm
          · have hpw : Asc keyS (l[p] :: l.drop (p + 1)) := by rw [← e2]; exact List.Pairwise.sublist (List.drop_sublist _ _) h
            have := (asc_cons.mp hpw).1 y hy
            rw [← h1] at this
            exact kl_irr _ (kl_tr hg this)
        · exact absurd h1 (hd y hy)
      refine .inr ⟨?_, fun _ => e, hall⟩
      rw [e1]
      exact look_none.mpr fun y hy e' => kl_ne (hall y hy) e'.symm
  · have e2 : l.drop p = [] := List.drop_of_length_le (by omega)
    refine .inr ⟨by rw [e1, e2]; rfl, fun h => absurd h hp, fun y hy => by rw [e2] at hy; cases hy⟩
theorem alts_ev {l : List S53} (hl : l.length ≤ 1000) (h : Asc keyS l) (q : Key) : Ev (fun k => semvcsref25_Alts.f k l q.1 q.2) (altsAt l q) := by
  obtain ⟨p, hp, hev, ht, hd⟩ := place_ev hl h q
  refine Ev.bind hev ?_
  unfold altsAt
  rcases look_place h ht hd with ⟨hlt, e, hlook⟩ | ⟨hlook, hne, _⟩
  · rw [hlook, rd53 hlt]
    refine Ev.pos (by omega) (Ev.pos (by omega) (Ev.pos (congrArg Prod.fst e) (Ev.step (fun k => by rw [semvcsref25_Alts.j0]) ?_)))
    rw [rd53 hlt]
    exact Ev.pos (by have := congrArg Prod.snd e; simpa [keyS] using this) (Ev.pos (by omega) (Ev.pos (by omega) (Ev.const fun k => rfl)))
  · rw [hlook]
    show Ev _ ([] : List S49)
    by_cases hlt : p < l.length
    · rw [rd53 hlt]
      have hk := hne hlt
      refine Ev.pos (by omega) (Ev.pos (by omega) ?_)
      by_cases e0 : l[p].f0 = q.1
      · refine Ev.pos e0 (Ev.step (fun k => by rw [semvcsref25_Alts.j0]) (Ev.neg ?_ (Ev.const fun k => rfl)))
        intro e1
        exact hk (key_ext e0 (eq_of_beq e1))
      · exact Ev.neg e0 (Ev.step (fun k => by rw [semvcsref25_Alts.j0]) (Ev.neg (by simp) (Ev.const fun k => rfl)))
    · exact Ev.neg (by omega) (Ev.step (fun k => by rw [semvcsref25_Alts.j0]) (Ev.neg (by simp) (Ev.const fun k => rfl)))
/-! ### The reference's merge -/
theorem altsAt_cons_eq {x : S53} {l : List S53} {q : Key} (h : keyS x = q) : altsAt (x :: l) q = x.f2 := by unfold altsAt; rw [look_cons, if_pos h]; rfl
theorem altsAt_cons_ne {x : S53} {l : List S53} {q : Key} (h : keyS x ≠ q) : altsAt (x :: l) q = altsAt l q := by unfold altsAt; rw [look_cons, if_neg h]
theorem altsAt_gt {l : List S53} {q : Key} (h : ∀ y ∈ l, kl q (keyS y)) : altsAt l q = [] := by unfold altsAt; rw [look_none.mpr (fun y hy e => kl_ne (h y hy) e.symm)]; rfl
theorem tidy_tail {x : S53} {l : List S53} (h : Tidy (x :: l)) : Tidy l ∧ ∀ y ∈ l, kl (keyS x) (keyS y) := ⟨⟨(asc_cons.mp h.asc).2, fun s hs => h.alts s (List.mem_cons_of_mem _ hs)⟩, (asc_cons.mp h.asc).1⟩
theorem tidy_nil : Tidy [] := ⟨List.Pairwise.nil, fun s hs => by cases hs⟩
structure NextOk (ta tb : List S53) (n : Nx) : Prop where
  xa : n.xa = altsAt ta (n.id, n.fd)
  ya : n.ya = altsAt tb (n.id, n.fd)
  tta : Tidy n.ta
  ttb : Tidy n.tb
  ga : ∀ y ∈ n.ta, kl (n.id, n.fd) (keyS y)
  gb : ∀ y ∈ n.tb, kl (n.id, n.fd) (keyS y)
  ea : ∀ q, q ≠ (n.id, n.fd) → altsAt n.ta q = altsAt ta q
  eb : ∀ q, q ≠ (n.id, n.fd) → altsAt n.tb q = altsAt tb q
  less : n.ta.length + n.tb.length < ta.length + tb.length
  sa : ∀ s ∈ n.ta, s ∈ ta
  sb : ∀ s ∈ n.tb, s ∈ tb
theorem aheadB_kl (x y : S53) : aheadB x y = decide (kl (keyS x) (keyS y)) := by
  rw [Bool.eq_iff_iff, decide_eq_true_iff]
  unfold aheadB kl keyS
  simp
theorem next_ok {ta tb : List S53} {n : Nx} (ha : Tidy ta) (hb : Tidy tb) (h : nextReg ta tb = some n) : NextOk ta tb n := by
  refine or5 (next_cases ta tb n h) ?_ ?_ ?_ ?_ ?_
  · rintro ⟨x, t, rfl, rfl, rfl⟩
    obtain ⟨h1, h2⟩ := tidy_tail ha
    exact ⟨(altsAt_cons_eq rfl).symm, rfl, h1, tidy_nil, h2, fun y hy => (by cases hy), fun q hq => (altsAt_cons_ne (Ne.symm hq)).symm, fun q hq => rfl, by simp only [List.length_cons]; omega, fun s hs => List.mem_cons_of_mem _ hs, fun s hs => hs⟩
  · rintro ⟨y, u, rfl, rfl, rfl⟩
    obtain ⟨h1, h2⟩ := tidy_tail hb
    exact ⟨rfl, (altsAt_cons_eq rfl).symm, tidy_nil, h1, fun y hy => (by cases hy), h2, fun q hq => rfl, fun q hq => (altsAt_cons_ne (Ne.symm hq)).symm, by simp only [List.length_cons]; omega, fun s hs => hs, fun s hs => List.mem_cons_of_mem _ hs⟩
  · rintro ⟨x, t, y, u, rfl, rfl, hah, rfl⟩
    obtain ⟨h1, h2⟩ := tidy_tail hb
    obtain ⟨h3, h4⟩ := tidy_tail ha
    rw [aheadB_kl] at hah
    have hlt := of_decide_eq_true hah
    have hg : ∀ z ∈ x :: t, kl (keyS y) (keyS z) := fun z hz => by
      rcases List.mem_cons.mp hz with rfl | hz
      · exact hlt
      · exact kl_tr hlt (h4 z hz)
    exact ⟨(altsAt_gt hg).symm, (altsAt_cons_eq rfl).symm, ha, h1, hg, h2, fun q hq => rfl, fun q hq => (altsAt_cons_ne (Ne.symm hq)).symm, by simp only [List.length_cons]; omega, fun s hs => hs, fun s hs => List.mem_cons_of_mem _ hs⟩
  · rintro ⟨x, t, y, u, rfl, rfl, hah, e0, e1, rfl⟩
    obtain ⟨h1, h2⟩ := tidy_tail hb
    obtain ⟨h3, h4⟩ := tidy_tail ha
    have e : keyS x = keyS y := key_ext e0 e1
    refine ⟨(altsAt_cons_eq rfl).symm, (altsAt_cons_eq e.symm).symm, h3, h1, h4, fun z hz => ?_, fun q hq => (altsAt_cons_ne (Ne.symm hq)).symm, fun q hq => (altsAt_cons_ne (fun e' => hq (e'.symm.trans e.symm))).symm, by simp only [List.length_cons]; omega, fun s hs => List.mem_cons_of_mem _ hs, fun s hs => List.mem_cons_of_mem _ hs⟩
    show kl (keyS x) (keyS z)
    rw [e]
    exact h2 z hz
  · rintro ⟨x, t, y, u, rfl, rfl, hah, hne, rfl⟩
    obtain ⟨h1, h2⟩ := tidy_tail hb
    obtain ⟨h3, h4⟩ := tidy_tail ha
    rw [aheadB_kl] at hah
    have hlt : kl (keyS x) (keyS y) := by
      rcases kl_three (keyS x) (keyS y) with h | h | h
      · exact h
      · exact absurd ⟨congrArg Prod.fst h, congrArg Prod.snd h⟩ hne
      · rw [decide_eq_true h] at hah; cases hah
    have hg : ∀ z ∈ y :: u, kl (keyS x) (keyS z) := fun z hz => by
      rcases List.mem_cons.mp hz with rfl | hz
      · exact hlt
      · exact kl_tr hlt (h2 z hz)
    exact ⟨(altsAt_cons_eq rfl).symm, (altsAt_gt hg).symm, h3, hb, h4, hg, fun q hq => (altsAt_cons_ne (Ne.symm hq)).symm, fun q hq => rfl, by simp only [List.length_cons]; omega, fun s hs => List.mem_cons_of_mem _ hs, fun s hs => hs⟩
theorem merge_nil_nil (o : List S49) (ho : Asc keyA o) : mergeAltsP (pick3 o [] []) = [] := by
  obtain ⟨h1, h2⟩ := mergeAlts_spec ho (asc_nil keyA) (asc_nil keyA)
  refine asc_ext h1 (asc_nil _) (fun q => ?_)
  rw [h2 q, look_nil]
  cases look keyA o q <;> rfl
theorem tidy_altsAt {l : List S53} (h : Tidy l) (q : Key) : Asc keyA (altsAt l q) := tidy_alts h q
/-- Lists of alternatives short enough for what the reference does with them. -/
def Small (n : Nat) (l : List S53) : Prop := l.length ≤ n ∧ ∀ s ∈ l, s.f2.length ≤ n
theorem small_alts {n : Nat} {l : List S53} (h : Small n l) (q : Key) : (altsAt l q).length ≤ n := by
  unfold altsAt
  cases e : look keyS l q with
  | none => exact Nat.zero_le _
  | some s => exact h.2 s (look_key e).2
theorem refmerge_ev {base : List S53} (hb : Tidy base) (hbs : Small 400 base) : ∀ (n : Nat) (ta tb : List S53), ta.length + tb.length ≤ n → Tidy ta → Tidy tb → (∀ s ∈ ta, s.f2.length ≤ 400) → (∀ s ∈ tb, s.f2.length ≤ 400) →
    ∃ m, (∀ out : List S53, out.length + n ≤ 1000 → Ev (fun k => semvcsref28_Merge.l0 base k ta tb out) (out ++ m)) ∧ Asc keyS m ∧ (∀ q0 : Key, (∀ y ∈ ta, kl q0 (keyS y)) → (∀ y ∈ tb, kl q0 (keyS y)) → ∀ y ∈ m, kl q0 (keyS y)) ∧ ∀ q, look keyS m q = slotAt q (mergeAltsP (pick3 (altsAt base q) (altsAt ta q) (altsAt tb q))) := by
  intro n
  induction n with
  | zero =>
    intro ta tb hn h1 h2 _ _
    obtain rfl : ta = [] := List.eq_nil_of_length_eq_zero (by omega)
    obtain rfl : tb = [] := List.eq_nil_of_length_eq_zero (by omega)
    refine ⟨[], fun out _ => Ev.step (fun k => by rw [semvcsref28_Merge.l0]) (Ev.const fun k => by simp [nextReg]), asc_nil _, fun q0 _ _ y hy => (by cases hy), fun q => ?_⟩
    rw [show altsAt [] q = [] from rfl, merge_nil_nil _ (tidy_altsAt hb q)]
    rfl
  | succ n ih =>
    intro ta tb hn h1 h2 s1 s2
    cases hx : nextReg ta tb with
    | none =>
      obtain ⟨rfl, rfl⟩ := next_none _ _ hx
      refine ⟨[], fun out _ => Ev.step (fun k => by rw [semvcsref28_Merge.l0]) (Ev.const fun k => by simp [nextReg]), asc_nil _, fun q0 _ _ y hy => (by cases hy), fun q => ?_⟩
      rw [show altsAt [] q = [] from rfl, merge_nil_nil _ (tidy_altsAt hb q)]
      rfl
    | some x =>
      have N := next_ok h1 h2 hx
      obtain ⟨m, m1, m2, m3, m4⟩ := ih x.ta x.tb (by have := N.less; omega) N.tta N.ttb (fun s hs => s1 s (N.sa s hs)) (fun s hs => s2 s (N.sb s hs))
      have hal := alts_ev (l := base) (by have := hbs.1; omega) hb.asc (x.id, x.fd)
      have hxl : x.xa.length ≤ 400 := by rw [N.xa]; unfold altsAt; cases e : look keyS ta (x.id, x.fd) with | none => simp [altsO] | some s => exact s1 s (look_key e).2
      have hyl : x.ya.length ≤ 400 := by rw [N.ya]; unfold altsAt; cases e : look keyS tb (x.id, x.fd) with | none => simp [altsO] | some s => exact s2 s (look_key e).2
      have hreg := register_is (o := altsAt base (x.id, x.fd)) (a := x.xa) (b := x.ya) (small_alts hbs _) hxl hyl (tidy_alts hb _) (by rw [N.xa]; exact tidy_alts h1 _) (by rw [N.ya]; exact tidy_alts h2 _)
      have hgm : ∀ y ∈ m, kl (x.id, x.fd) (keyS y) := m3 (x.id, x.fd) N.ga N.gb
      have hq0 : ∀ q0 : Key, (∀ y ∈ ta, kl q0 (keyS y)) → (∀ y ∈ tb, kl q0 (keyS y)) → ∀ y ∈ m, kl q0 (keyS y) := fun q0 ha hb' => m3 q0 (fun y hy => ha y (N.sa y hy)) (fun y hy => hb' y (N.sb y hy))
      by_cases hL : mergeAltsP (pick3 (altsAt base (x.id, x.fd)) x.xa x.ya) = []
      · refine ⟨m, fun out ho => Ev.step (fun k => by rw [semvcsref28_Merge.l0, hx]) (Ev.bind hal (Ev.bind hreg ?_)), m2, hq0, fun q => ?_⟩
        · rw [hL]
          exact Ev.neg (by simp) (m1 out (by omega))
        · rw [m4 q]
          by_cases e : q = (x.id, x.fd)
          · subst e
            rw [← N.xa, ← N.ya, hL, altsAt_gt N.ga, altsAt_gt N.gb, merge_nil_nil _ (tidy_altsAt hb _)]
          · rw [N.ea q e, N.eb q e]
      · refine ⟨⟨x.id, x.fd, mergeAltsP (pick3 (altsAt base (x.id, x.fd)) x.xa x.ya)⟩ :: m, fun out ho => Ev.step (fun k => by rw [semvcsref28_Merge.l0, hx]) (Ev.bind hal (Ev.bind hreg ?_)), asc_cons.mpr ⟨hgm, m2⟩, fun q0 ha hb' y hy => ?_, fun q => ?_⟩
        · refine Ev.pos (List.length_pos_iff.mpr hL) (Ev.pos (by omega) ?_)
          have := m1 (out ++ [⟨x.id, x.fd, mergeAltsP (pick3 (altsAt base (x.id, x.fd)) x.xa x.ya)⟩]) (by simp; omega)
          rw [List.append_assoc] at this
          exact this
        · rcases List.mem_cons.mp hy with rfl | hy
          · show kl q0 (x.id, x.fd)
            have hne : x.xa ≠ [] ∨ x.ya ≠ [] := by
              by_cases e : x.xa = []
              · refine .inr fun e' => hL ?_
                rw [e, e']
                exact merge_nil_nil _ (tidy_altsAt hb _)
              · exact .inl e
            rcases hne with e | e
            · rw [N.xa] at e
              unfold altsAt at e
              cases e' : look keyS ta (x.id, x.fd) with
              | none => rw [e'] at e; exact absurd rfl e
              | some s => rw [← (look_key e').1]; exact ha s (look_key e').2
            · rw [N.ya] at e
              unfold altsAt at e
              cases e' : look keyS tb (x.id, x.fd) with
              | none => rw [e'] at e; exact absurd rfl e
              | some s => rw [← (look_key e').1]; exact hb' s (look_key e').2
          · exact hq0 q0 ha hb' y hy
        · rw [look_cons, m4 q]
          by_cases e : q = (x.id, x.fd)
          · subst e
            rw [if_pos (show keyS ⟨x.id, x.fd, mergeAltsP (pick3 (altsAt base (x.id, x.fd)) x.xa x.ya)⟩ = (x.id, x.fd) from rfl), ← N.xa, ← N.ya]
            unfold slotAt
            rw [if_neg hL]
          · rw [if_neg (show ¬ keyS ⟨x.id, x.fd, mergeAltsP (pick3 (altsAt base (x.id, x.fd)) x.xa x.ya)⟩ = q from fun e' => e (Eq.symm e')), N.ea q e, N.eb q e]
/-- The reference's merge is merge3.Merge. -/
theorem refmerge_is {o x y : List S53} (ho : Tidy o) (hx : Tidy x) (hy : Tidy y) (so : Small 400 o) (sx : Small 400 x) (sy : Small 400 y) : Ev (fun k => semvcsref28_Merge.f k o x y) (mergeP o x y) := by
  obtain ⟨m, m1, m2, _, m4⟩ := refmerge_ev ho so (x.length + y.length) x y (Nat.le_refl _) hx hy sx.2 sy.2
  obtain ⟨h1, h2⟩ := merge_spec ho hx hy
  have : m = mergeP o x y := asc_ext m2 h1 (fun q => by rw [m4 q, h2 q])
  subst this
  exact m1 [] (by have := sx.1; have := sy.1; simp; omega)
end Go.Proofs.Ytcecekmhikmkhaa.M
