/- Plain facts: the reference's Spots, Changed and Both (their pure forms) on ascending states; they are what merge3.Changed and merge3.Both return. -/
import Derived.Test.YtcecekmhikmkhaaP4
import Derived.Test.YtcecekmhikmkhaaHf
namespace Go.Proofs.Ytcecekmhikmkhaa.M
open Go.RowKit Go.Proofs.YtcecekmhikmkhaaW.PrintWords Go.Proofs.YtcecekmhikmkhaaW.PrintLast Go.Proofs.YtcecekmhikmkhaaW.PrintMore
set_option linter.unusedVariables false
set_option linter.unusedSimpArgs false
abbrev toSpot (q : Key) : S36 := ⟨q.1, q.2⟩
theorem look_id {ks : List Key} (q : Key) : look id ks q = if q ∈ ks then some q else none := by
  induction ks with
  | nil => rfl
  | cons p ks ih =>
    rw [look_cons, ih]
    by_cases e : p = q
    · subst e; simp
    · rw [if_neg (show ¬ id p = q from e)]
      have : (q ∈ p :: ks) = (q ∈ ks) := by simp [Ne.symm e]
      simp only [this]
theorem keys_ext {ks ms : List Key} (h : Asc id ks) (k : Asc id ms) (e : ∀ q, q ∈ ks ↔ q ∈ ms) : ks = ms := asc_ext h k fun q => by rw [look_id, look_id]; simp only [e q]
/-- Has a list a register with this key? -/
def hasKey (l : List S53) (q : Key) : Prop := ∃ s ∈ l, keyS s = q
structure NsOk (ta tb : List S53) (n : Ns) : Prop where
  aa : Asc keyS n.ta
  ab : Asc keyS n.tb
  ga : ∀ y ∈ n.ta, kl (n.id, n.fd) (keyS y)
  gb : ∀ y ∈ n.tb, kl (n.id, n.fd) (keyS y)
  mem : ∀ q, hasKey ta q ∨ hasKey tb q ↔ q = (n.id, n.fd) ∨ hasKey n.ta q ∨ hasKey n.tb q
  less : n.ta.length + n.tb.length < ta.length + tb.length
theorem hasKey_cons {x : S53} {l : List S53} {q : Key} : hasKey (x :: l) q ↔ q = keyS x ∨ hasKey l q := by
  unfold hasKey
  constructor
  · rintro ⟨s, hs, rfl⟩
    rcases List.mem_cons.mp hs with rfl | hs
    · exact .inl rfl
    · exact .inr ⟨s, hs, rfl⟩
  · rintro (rfl | ⟨s, hs, rfl⟩)
    · exact ⟨x, List.mem_cons_self, rfl⟩
    · exact ⟨s, List.mem_cons_of_mem _ hs, rfl⟩
theorem hasKey_nil {q : Key} : ¬ hasKey [] q := fun ⟨s, hs, _⟩ => by cases hs
theorem ns_ok {ta tb : List S53} {n : Ns} (ha : Asc keyS ta) (hb : Asc keyS tb) (h : nextSpot ta tb = some n) : NsOk ta tb n := by
  refine or5 (nspot_cases ta tb n h) ?_ ?_ ?_ ?_ ?_
  · rintro ⟨x, t, rfl, rfl, rfl⟩
    obtain ⟨h1, h2⟩ := asc_cons.mp ha
    refine ⟨h2, asc_nil _, h1, fun y hy => (by cases hy), fun q => ?_, by simp only [List.length_cons]; omega⟩
    rw [hasKey_cons]
    exact or_assoc
  · rintro ⟨y, u, rfl, rfl, rfl⟩
    obtain ⟨h1, h2⟩ := asc_cons.mp hb
    refine ⟨asc_nil _, h2, fun y hy => (by cases hy), h1, fun q => ?_, by simp only [List.length_cons]; omega⟩
    rw [hasKey_cons]
    show hasKey [] q ∨ q = keyS y ∨ hasKey u q ↔ q = keyS y ∨ hasKey [] q ∨ hasKey u q
    simp only [hasKey_nil, false_or]
  · rintro ⟨x, t, y, u, rfl, rfl, hah, rfl⟩
    obtain ⟨h1, h2⟩ := asc_cons.mp ha
    obtain ⟨h3, h4⟩ := asc_cons.mp hb
    rw [aheadB_kl] at hah
    have hlt := of_decide_eq_true hah
    refine ⟨h2, hb, h1, fun z hz => ?_, fun q => ?_, by simp only [List.length_cons]; omega⟩
    · rcases List.mem_cons.mp hz with rfl | hz
      · exact hlt
      · exact kl_tr hlt (h3 z hz)
    · rw [hasKey_cons]
      exact or_assoc
  · rintro ⟨x, t, y, u, rfl, rfl, hah, e0, e1, rfl⟩
    obtain ⟨h1, h2⟩ := asc_cons.mp ha
    obtain ⟨h3, h4⟩ := asc_cons.mp hb
    have e : keyS x = keyS y := key_ext e0 e1
    refine ⟨h2, h4, fun z hz => ?_, h3, fun q => ?_, by simp only [List.length_cons]; omega⟩
    · show kl (keyS y) (keyS z)
      rw [← e]
      exact h1 z hz
    · rw [hasKey_cons, hasKey_cons, e]
      show (q = keyS y ∨ hasKey t q) ∨ q = keyS y ∨ hasKey u q ↔ q = keyS y ∨ hasKey t q ∨ hasKey u q
      constructor
      · rintro ((h | h) | h | h)
        · exact .inl h
        · exact .inr (.inl h)
        · exact .inl h
        · exact .inr (.inr h)
      · rintro (h | h | h)
        · exact .inl (.inl h)
        · exact .inl (.inr h)
        · exact .inr (.inr h)
  · rintro ⟨x, t, y, u, rfl, rfl, hah, hne, rfl⟩
    obtain ⟨h1, h2⟩ := asc_cons.mp ha
    obtain ⟨h3, h4⟩ := asc_cons.mp hb
    rw [aheadB_kl] at hah
    have hlt : kl (keyS y) (keyS x) := by
      rcases kl_three (keyS x) (keyS y) with h | h | h
      · rw [decide_eq_true h] at hah; cases hah
      · exact absurd ⟨congrArg Prod.fst h, congrArg Prod.snd h⟩ hne
      · exact h
    refine ⟨ha, h4, fun z hz => ?_, h3, fun q => ?_, by simp only [List.length_cons]; omega⟩
    · rcases List.mem_cons.mp hz with rfl | hz
      · exact hlt
      · exact kl_tr hlt (h1 z hz)
    · rw [@hasKey_cons y u]
      show hasKey (x :: t) q ∨ q = keyS y ∨ hasKey u q ↔ q = keyS y ∨ hasKey (x :: t) q ∨ hasKey u q
      exact or_left_comm
theorem spots_ev : ∀ (n : Nat) (ta tb : List S53), ta.length + tb.length ≤ n → Asc keyS ta → Asc keyS tb →
    ∃ ks, (∀ out : List S36, out.length + n ≤ 10000 → Ev (fun k => semvcsref28_Spots.l0 k ta tb out) (out ++ ks.map toSpot)) ∧ Asc id ks ∧ ks.length ≤ n ∧ ∀ q, q ∈ ks ↔ hasKey ta q ∨ hasKey tb q := by
  intro n
  induction n with
  | zero =>
    intro ta tb hn h1 h2
    obtain rfl : ta = [] := List.eq_nil_of_length_eq_zero (by omega)
    obtain rfl : tb = [] := List.eq_nil_of_length_eq_zero (by omega)
    exact ⟨[], fun out _ => Ev.step (fun k => by rw [semvcsref28_Spots.l0]) (Ev.const fun k => by simp [nextSpot]), List.Pairwise.nil, Nat.le_refl _, fun q => by simp [hasKey_nil]⟩
  | succ n ih =>
    intro ta tb hn h1 h2
    cases hx : nextSpot ta tb with
    | none =>
      obtain ⟨rfl, rfl⟩ := nspot_none _ _ hx
      exact ⟨[], fun out _ => Ev.step (fun k => by rw [semvcsref28_Spots.l0]) (Ev.const fun k => by simp [nextSpot]), List.Pairwise.nil, Nat.zero_le _, fun q => by simp [hasKey_nil]⟩
    | some x =>
      have N := ns_ok h1 h2 hx
      obtain ⟨ks, k1, k2, k3, k4⟩ := ih x.ta x.tb (by have := N.less; omega) N.aa N.ab
      refine ⟨(x.id, x.fd) :: ks, fun out ho => Ev.step (fun k => by rw [semvcsref28_Spots.l0, hx]) (Ev.pos (by omega) ?_), asc_cons.mpr ⟨fun q hq => ?_, k2⟩, by simp only [List.length_cons]; omega, fun q => ?_⟩
      · have := k1 (out ++ [⟨x.id, x.fd⟩]) (by simp only [List.length_append, List.length_singleton]; omega)
        rw [List.append_assoc] at this
        exact this
      · rcases (k4 q).mp hq with ⟨s, hs, rfl⟩ | ⟨s, hs, rfl⟩
        · exact N.ga s hs
        · exact N.gb s hs
      · rw [List.mem_cons, k4 q, N.mem q]
theorem stamped_ev {x y : List S49} (hx : x.length ≤ 100000) : Ev (fun k => semvcsref28_stamped.f k x y) (sameB x y) := by
  by_cases hl : x.length = y.length
  · have H : ∀ (d i : Nat), i + d = x.length → Ev (fun k => semvcsref28_stamped.l0 k x y (i : Int)) (decide ((x.drop i).map (·.f0) = (y.drop i).map (·.f0))) := by
      intro d
      induction d with
      | zero =>
        intro i hi
        refine Ev.step (fun k => by rw [semvcsref28_stamped.l0]) (Ev.neg (by omega) (Ev.const fun k => ?_))
        rw [List.drop_of_length_le (by omega), List.drop_of_length_le (by omega)]
        simp
      | succ d ih =>
        intro i hi
        have h1 : i < x.length := by omega
        have h2 : i < y.length := by omega
        refine Ev.step (fun k => by rw [semvcsref28_stamped.l0]) (Ev.pos (by omega) (Ev.pos (by omega) (Ev.pos (by omega) ?_)))
        rw [rd49 h1, rd49 h2, List.drop_eq_getElem_cons h1, List.drop_eq_getElem_cons h2, List.map_cons, List.map_cons]
        by_cases e : x[i].f0 = y[i].f0
        · refine Ev.pos e ?_
          have hd : decide (x[i].f0 :: (x.drop (i + 1)).map (·.f0) = y[i].f0 :: (y.drop (i + 1)).map (·.f0)) = decide ((x.drop (i + 1)).map (·.f0) = (y.drop (i + 1)).map (·.f0)) := by simp only [List.cons.injEq, e, true_and]
          rw [hd, wrap_nat (by omega)]
          exact ih (i + 1) (by omega)
        · refine Ev.neg e (Ev.const fun k => ?_)
          rw [decide_eq_false (fun h => e (List.cons.inj h).1)]
    exact Ev.pos (by omega) (H x.length 0 (by omega))
  · refine Ev.neg (by omega) (Ev.const fun k => ?_)
    unfold sameB
    rw [decide_eq_false (fun h => hl (by have := congrArg List.length h; simpa using this))]
/-- What is kept of a register: its key, where a condition holds. -/
def keepIf (c : Key → Bool) (q : Key) : List S36 := if c q = true then [toSpot q] else []
theorem keepIf_key {c : Key → Bool} (q : Key) (z : S36) (h : z ∈ keepIf c q) : keyP z = q := by
  unfold keepIf at h
  split at h
  · simp only [List.mem_singleton] at h
    rw [h]; rfl
  · cases h
theorem keepIf_le (c : Key → Bool) (q : Key) : (keepIf c q).length ≤ 1 := by unfold keepIf; split <;> simp
def cC (l0 l1 : List S53) (q : Key) : Bool := !sameB (altsAt l0 q) (altsAt l1 q)
def cB (l0 l1 l2 : List S53) (q : Key) : Bool := !sameB (altsAt l0 q) (altsAt l1 q) && !sameB (altsAt l0 q) (altsAt l2 q) && !sameB (altsAt l1 q) (altsAt l2 q)
theorem altsAt_no {l : List S53} {q : Key} (h : ¬ hasKey l q) : altsAt l q = [] := by
  unfold altsAt
  rw [look_none.mpr fun x hx e => h ⟨x, hx, e⟩]
  rfl
theorem sameB_refl (x : List S49) : sameB x x = true := by unfold sameB; simp
theorem cC_no {l0 l1 : List S53} {q : Key} (h0 : ¬ hasKey l0 q) (h1 : ¬ hasKey l1 q) : cC l0 l1 q = false := by unfold cC; rw [altsAt_no h0, altsAt_no h1, sameB_refl]; rfl
theorem cB_no {l0 l1 l2 : List S53} {q : Key} (h : cC l0 l1 q = false) : cB l0 l1 l2 q = false := by unfold cB; unfold cC at h; rw [h]; rfl
theorem firstS_at {l0 l1 l2 : List S53} {q : Key} (h : rowAt keyS (pick3 l0 l1 l2) q ≠ (none, none, none)) : spotOf (rowAt keyS (pick3 l0 l1 l2) q) = toSpot q := by
  have h1 := congrArg Prod.fst (firstS_key h)
  have h2 := congrArg Prod.snd (firstS_key h)
  show (⟨_, _⟩ : S36) = ⟨q.1, q.2⟩
  rw [← h1, ← h2]
  rfl
theorem changed_spec {l0 l1 : List S53} (h0 : Asc keyS l0) (h1 : Asc keyS l1) : Asc keyP (changedP l0 l1) ∧ ∀ q, look keyP (changedP l0 l1) q = (keepIf (cC l0 l1) q).head? := by
  have hg : ∀ q, keptC (rowAt keyS (pick3 l0 l1 []) q) = keepIf (cC l0 l1) q := fun q => by
    unfold keptC keepIf
    show (if cC l0 l1 q = true then _ else _) = _
    by_cases e : cC l0 l1 q = true
    · rw [if_pos e, if_pos e, firstS_at]
      intro h
      have h2 : cC l0 l1 q = condC (rowAt keyS (pick3 l0 l1 []) q) := rfl
      rw [h2, h] at e
      cases e
    · rw [if_neg e, if_neg e]
  have h := flat_spec cmpS_key (kb := keyP) (g := keptC) (L := pick3 l0 l1 []) (pick3_all h0 h1 (asc_nil _)) (fun q z hz => keepIf_key q z (by rw [← hg q]; exact hz)) (fun r => by unfold keptC; split <;> simp) rfl
  exact ⟨h.1, fun q => (h.2 q).trans (congrArg List.head? (hg q))⟩
theorem both_spec {l0 l1 l2 : List S53} (h0 : Asc keyS l0) (h1 : Asc keyS l1) (h2 : Asc keyS l2) : Asc keyP (bothP l0 l1 l2) ∧ ∀ q, look keyP (bothP l0 l1 l2) q = (keepIf (cB l0 l1 l2) q).head? := by
  have hg : ∀ q, keptB (rowAt keyS (pick3 l0 l1 l2) q) = keepIf (cB l0 l1 l2) q := fun q => by
    unfold keptB keepIf
    show (if cB l0 l1 l2 q = true then _ else _) = _
    by_cases e : cB l0 l1 l2 q = true
    · rw [if_pos e, if_pos e, firstS_at]
      intro h
      have h2 : cB l0 l1 l2 q = condB (rowAt keyS (pick3 l0 l1 l2) q) := rfl
      rw [h2, h] at e
      cases e
    · rw [if_neg e, if_neg e]
  have h := flat_spec cmpS_key (kb := keyP) (g := keptB) (L := pick3 l0 l1 l2) (pick3_all h0 h1 h2) (fun q z hz => keepIf_key q z (by rw [← hg q]; exact hz)) (fun r => by unfold keptB; split <;> simp) rfl
  exact ⟨h.1, fun q => (h.2 q).trans (congrArg List.head? (hg q))⟩
theorem keep_spec {c : Key → Bool} {ks : List Key} (h : Asc id ks) (hno : ∀ q, q ∉ ks → c q = false) : Asc keyP (ks.flatMap (keepIf c)) ∧ ∀ q, look keyP (ks.flatMap (keepIf c)) q = (keepIf c q).head? := by
  obtain ⟨h1, h2⟩ := asc_flat (kb := keyP) (F := keepIf c) keepIf_key (keepIf_le c) h
  refine ⟨h1, fun q => ?_⟩
  rw [h2 q]
  by_cases e : q ∈ ks
  · rw [if_pos e]
  · rw [if_neg e]
    unfold keepIf
    rw [if_neg (by rw [hno q e]; decide)]
    rfl
theorem refchanged_ev {o x : List S53} (ho : Tidy o) (hx : Tidy x) (so : Small 400 o) (sx : Small 400 x) : Ev (fun k => semvcsref28_Changed.f k o x) (changedP o x) := by
  obtain ⟨ks, k1, k2, k3, k4⟩ := spots_ev (o.length + x.length) o x (Nat.le_refl _) ho.asc hx.asc
  have hl0 := so.1
  have hl1 := sx.1
  have H : ∀ (ms : List Key) (out : List S36), out.length + ms.length ≤ 10000 → Ev (fun k => semvcsref28_Changed.l0 o x k (ms.map toSpot) out) (out ++ ms.flatMap (keepIf (cC o x))) := by
    intro ms
    induction ms with
    | nil => intro out _; exact Ev.step (fun k => by rw [List.map_nil, semvcsref28_Changed.l0]) (Ev.const fun k => by simp)
    | cons q ms ih =>
      intro out hout
      rw [List.length_cons] at hout
      refine Ev.step (fun k => by rw [List.map_cons, semvcsref28_Changed.l0]) (Ev.bind (alts_ev (by omega) ho.asc q) (Ev.bind (alts_ev (by omega) hx.asc q) (Ev.bind (stamped_ev (x := altsAt o q) (y := altsAt x q) (by have := small_alts so q; omega)) ?_)))
      rw [List.flatMap_cons]
      by_cases e : sameB (altsAt o q) (altsAt x q) = true
      · refine Ev.pos e ?_
        rw [show keepIf (cC o x) q = [] by unfold keepIf cC; rw [e]; rfl]
        exact ih out (by omega)
      · refine Ev.neg e (Ev.pos (by omega) ?_)
        rw [show keepIf (cC o x) q = [toSpot q] by unfold keepIf cC; rw [(Bool.not_eq_true _).mp e]; rfl]
        have := ih (out ++ [toSpot q]) (by simp only [List.length_append, List.length_singleton]; omega)
        rw [List.append_assoc] at this
        exact this
  have h1 := keep_spec (c := cC o x) k2 (fun q hq => cC_no (fun h => hq ((k4 q).mpr (.inl h))) (fun h => hq ((k4 q).mpr (.inr h))))
  have h2 := changed_spec ho.asc hx.asc
  have e : ks.flatMap (keepIf (cC o x)) = changedP o x := asc_ext h1.1 h2.1 fun q => by rw [h1.2 q, h2.2 q]
  rw [← e]
  exact Ev.bind (k1 [] (by simp only [List.length_nil]; omega)) (H ks [] (by simp only [List.length_nil]; omega))
theorem keepIf_keys (c : Key → Bool) (ks : List Key) : ∃ ms : List Key, ks.flatMap (keepIf c) = ms.map toSpot ∧ ms = ks.filter c ∧ ms.length ≤ ks.length := by
  refine ⟨ks.filter c, ?_, rfl, List.length_filter_le _ _⟩
  induction ks with
  | nil => rfl
  | cons q ks ih =>
    rw [List.flatMap_cons, ih, List.filter_cons]
    unfold keepIf
    by_cases e : c q = true
    · rw [if_pos e, if_pos e]; rfl
    · rw [if_neg e, if_neg e]; rfl
theorem refboth_ev {o x y : List S53} (ho : Tidy o) (hx : Tidy x) (hy : Tidy y) (so : Small 400 o) (sx : Small 400 x) (sy : Small 400 y) : Ev (fun k => semvcsref28_Both.f k o x y) (bothP o x y) := by
  obtain ⟨ks, k1, k2, k3, k4⟩ := spots_ev (o.length + x.length) o x (Nat.le_refl _) ho.asc hx.asc
  have hl0 := so.1
  have hl1 := sx.1
  have hl2 := sy.1
  have h1 := keep_spec (c := cC o x) k2 (fun q hq => cC_no (fun h => hq ((k4 q).mpr (.inl h))) (fun h => hq ((k4 q).mpr (.inr h))))
  have h2 := changed_spec ho.asc hx.asc
  have ec : ks.flatMap (keepIf (cC o x)) = changedP o x := asc_ext h1.1 h2.1 fun q => by rw [h1.2 q, h2.2 q]
  obtain ⟨ms, m1, m2, m3⟩ := keepIf_keys (cC o x) ks
  have hC := refchanged_ev ho hx so sx
  rw [← ec, m1] at hC
  have hcm : ∀ q ∈ ms, cC o x q = true := fun q hq => by rw [m2] at hq; exact (List.mem_filter.mp hq).2
  have hma : Asc id ms := by rw [m2]; exact List.Pairwise.sublist List.filter_sublist k2
  have H : ∀ (ps : List Key), (∀ q ∈ ps, cC o x q = true) → ∀ (out : List S36), out.length + ps.length ≤ 10000 → Ev (fun k => semvcsref28_Both.l0 o x y k (ps.map toSpot) out) (out ++ ps.flatMap (keepIf (cB o x y))) := by
    intro ps
    induction ps with
    | nil => intro _ out _; exact Ev.step (fun k => by rw [List.map_nil, semvcsref28_Both.l0]) (Ev.const fun k => by simp)
    | cons q ps ih =>
      intro hps out hout
      rw [List.length_cons] at hout
      have hq := hps q List.mem_cons_self
      have hps' : ∀ p ∈ ps, cC o x p = true := fun p hp => hps p (List.mem_cons_of_mem _ hp)
      refine Ev.step (fun k => by rw [List.map_cons, semvcsref28_Both.l0]) (Ev.bind (alts_ev (by omega) hx.asc q) (Ev.bind (alts_ev (by omega) hy.asc q) (Ev.bind (alts_ev (by omega) ho.asc q) (Ev.bind (stamped_ev (x := altsAt o q) (y := altsAt y q) (by have := small_alts so q; omega)) ?_))))
      rw [List.flatMap_cons]
      have hcb : cB o x y q = (!sameB (altsAt o q) (altsAt y q) && !sameB (altsAt x q) (altsAt y q)) := by
        unfold cB
        unfold cC at hq
        rw [hq, Bool.true_and]
      by_cases e : sameB (altsAt o q) (altsAt y q) = true
      · refine Ev.pos e ?_
        rw [show keepIf (cB o x y) q = [] by unfold keepIf; rw [hcb, e]; rfl]
        exact ih hps' out (by omega)
      · refine Ev.neg e (Ev.bind (stamped_ev (by have := small_alts sx q; omega)) ?_)
        by_cases e2 : sameB (altsAt x q) (altsAt y q) = true
        · refine Ev.pos e2 ?_
          rw [show keepIf (cB o x y) q = [] by unfold keepIf; rw [hcb, e2, Bool.not_true, Bool.and_false]; rfl]
          exact ih hps' out (by omega)
        · refine Ev.neg e2 (Ev.pos (by omega) ?_)
          rw [show keepIf (cB o x y) q = [toSpot q] by unfold keepIf; rw [hcb, (Bool.not_eq_true _).mp e, (Bool.not_eq_true _).mp e2]; rfl]
          have := ih hps' (out ++ [toSpot q]) (by simp only [List.length_append, List.length_singleton]; omega)
          rw [List.append_assoc] at this
          exact this
  have h3 := keep_spec (c := cB o x y) hma (fun q hq => cB_no (by
    by_cases hk : q ∈ ks
    · rw [m2, List.mem_filter] at hq
      exact (Bool.not_eq_true _).mp fun h => hq ⟨hk, h⟩
    · exact cC_no (fun h => hk ((k4 q).mpr (.inl h))) (fun h => hk ((k4 q).mpr (.inr h)))))
  have h4 := both_spec ho.asc hx.asc hy.asc
  have e : ms.flatMap (keepIf (cB o x y)) = bothP o x y := asc_ext h3.1 h4.1 fun q => by rw [h3.2 q, h4.2 q]
  rw [← e]
  exact Ev.bind hC (H ms hcm [] (by simp only [List.length_nil]; omega))
end Go.Proofs.Ytcecekmhikmkhaa.M
