/- Merge3Merges: its law function returns true for all lists of marks (the walk joined with the plain law). -/
import Derived.Test.YtcecekmhikmkhaaLa
import Derived.Test.YtcecekmhikmkhaaP4
namespace Go.Proofs.Ytcecekmhikmkhaa.M
open Go.RowKit Go.Proofs.YtcecekmhikmkhaaW.PrintWords Go.Proofs.YtcecekmhikmkhaaW.PrintLast Go.Proofs.YtcecekmhikmkhaaW.PrintMore
set_option linter.unusedVariables false
theorem mod_some {a b : Int} (h : 1 ≤ b) : ∃ r, semvcsmade2_Mod.f a b = some r := by
  unfold semvcsmade2_Mod.f
  rw [if_neg (by omega), if_neg (by omega)]
  exact ⟨_, rfl⟩
theorem id_some (a : Int) {b : Int} (h : 1 ≤ b) : ∃ r, semvcsmade2_Id.f a b = some r := by
  unfold semvcsmade2_Id.f
  obtain ⟨x, hx⟩ := mod_some (a := a) (b := 3) (by omega)
  obtain ⟨y, hy⟩ := mod_some (a := wrap64 (Int.tdiv a 3)) h
  rw [hx, Option.bind_some, hy, Option.bind_some]
  exact ⟨_, rfl⟩
theorem fields_some (a : Int) : ∃ r, semvcsmade2_fields.f a = some r := by
  unfold semvcsmade2_fields.f
  obtain ⟨x, hx⟩ := mod_some (a := a) (b := 5) (by omega)
  obtain ⟨y, hy⟩ := mod_some (a := wrap64 (Int.tdiv a 5)) (b := 3) (by omega)
  rw [hx, Option.bind_some, hy, Option.bind_some]
  split
  · exact ⟨_, rfl⟩
  · split
    · exact ⟨_, rfl⟩
    · split
      · exact ⟨_, rfl⟩
      · split <;> exact ⟨_, rfl⟩
theorem value_some (a b c : Int) : ∃ v1 v2 v3 v4, semvcsmade2_Value.f a b c = some (v1, v2, v3, v4) := by
  unfold semvcsmade2_Value.f
  obtain ⟨x, hx⟩ := mod_some (a := c) (b := 4) (by omega)
  obtain ⟨y, hy⟩ := mod_some (a := wrap64 (a + c)) (b := 3) (by omega)
  obtain ⟨z, hz⟩ := mod_some (a := wrap64 (b * c)) (b := 2) (by omega)
  rw [hx, Option.bind_some, hy, Option.bind_some, hz, Option.bind_some]
  exact ⟨_, _, _, _, rfl⟩
theorem mark_any (m : S44) : MarkOk (fun _ _ _ => True) m := by
  obtain ⟨id, h1⟩ := id_some m.f0 (b := 3) (by omega)
  obtain ⟨fd, h2⟩ := fields_some m.f1
  obtain ⟨st, h3⟩ := id_some m.f2 (b := 4) (by omega)
  obtain ⟨v1, v2, v3, v4, h4⟩ := value_some id fd st
  exact ⟨id, fd, st, v1, v2, v3, v4, h1, h2, h3, h4, trivial⟩
theorem mergeAltsP_le (o x y : List S49) : (mergeAltsP (pick3 o x y)).length ≤ o.length + x.length + y.length := by
  have h1 := flat_le keptRow (fun r => keptAlt_le r.1 r.2.1 r.2.2) (rowsOf cmpA (pick3 o x y))
  have h2 := rowsOf_length cmpA_self _ (pick3 o x y) (Nat.le_refl _)
  have h3 : total (pick3 o x y) = o.length + x.length + y.length := rfl
  unfold mergeAltsP
  omega
/-- What stands in a merge. -/
theorem merge_mem {o x y : List S53} (ho : Tidy o) (hx : Tidy x) (hy : Tidy y) {s : S53} (hs : s ∈ mergeP o x y) :
    s.f2 = mergeAltsP (pick3 (altsAt o (keyS s)) (altsAt x (keyS s)) (altsAt y (keyS s))) ∧ s.f2 ≠ [] := by
  obtain ⟨h1, h2⟩ := merge_spec ho hx hy
  have h3 := h2 (keyS s)
  rw [look_mem h1 hs] at h3
  unfold slotAt at h3
  split at h3
  · cases h3
  · rename_i hne
    have := congrArg S53.f2 (Option.some.inj h3)
    exact ⟨this, by rw [this]; exact hne⟩
theorem mergeP_len (o x y : List S53) : (mergeP o x y).length ≤ o.length + x.length + y.length := by
  have h1 := flat_le keptSlot keptSlot_le (rowsOf cmpS (pick3 o x y))
  have h2 := rowsOf_length cmpS_self _ (pick3 o x y) (Nat.le_refl _)
  have h3 : total (pick3 o x y) = o.length + x.length + y.length := rfl
  unfold mergeP
  omega
theorem mergeP_tidy {o x y : List S53} (ho : Tidy o) (hx : Tidy x) (hy : Tidy y) : Tidy (mergeP o x y) := by
  refine ⟨(merge_spec ho hx hy).1, fun s hs => ?_⟩
  rw [(merge_mem ho hx hy hs).1]
  exact (mergeAlts_spec (tidy_altsAt ho _) (tidy_altsAt hx _) (tidy_altsAt hy _)).1
theorem mergeP_small {n : Nat} {o x y : List S53} (ho : Tidy o) (hx : Tidy x) (hy : Tidy y) (so : Small n o) (sx : Small n x) (sy : Small n y) : Small (n + n + n) (mergeP o x y) := by
  refine ⟨?_, fun s hs => ?_⟩
  · have := mergeP_len o x y
    have := so.1
    have := sx.1
    have := sy.1
    omega
  · rw [(merge_mem ho hx hy hs).1]
    have := mergeAltsP_le (altsAt o (keyS s)) (altsAt x (keyS s)) (altsAt y (keyS s))
    have := small_alts so (keyS s)
    have := small_alts sx (keyS s)
    have := small_alts sy (keyS s)
    omega
theorem small_smallS {n : Nat} {l : List S53} (h : Small n l) (hn : n ≤ 1000000) : smallS l = true := by
  unfold smallS
  rw [Bool.and_eq_true, List.all_eq_true]
  refine ⟨decide_eq_true (by have := h.1; omega), fun s hs => decide_eq_true (by have := h.2 s hs; omega)⟩
theorem merge_f {n : Nat} {o x y : List S53} (so : Small n o) (sx : Small n x) (sy : Small n y) (hn : n ≤ 1000000) : merge3_Merge.f o x y = some (mergeP o x y) := by
  unfold merge3_Merge.f
  rw [small_smallS so hn, small_smallS sx hn, small_smallS sy hn]
  rfl
theorem merge3Merges_walk (A0 : Option Addr) (c0 : Nat) (l0 : List S44) (A1 : Option Addr) (c1 : Nat) (l1 : List S44) (A2 : Option Addr) (c2 : Nat) (l2 : List S44) (w : World) (hr0 : Kd.C k44 w A0 l0.length l0) (hc0 : l0.length ≤ c0) (hr1 : Kd.C k44 w A1 l1.length l1) (hc1 : l1.length ≤ c1) (hr2 : Kd.C k44 w A2 l2.length l2) (hc2 : l2.length ≤ c2) :
    Calls Try.prog 3 #[.slice A0 l0.length c0, .slice A1 l1.length c1, .slice A2 l2.length c2] w fun e w' => e = .returned (.bool true) ∧ Below w.heap.size w w' := by
  obtain ⟨o, ⟨K0, e0⟩, g0⟩ := state_ev mark_any l0
  obtain ⟨x, ⟨K1, e1⟩, g1⟩ := state_ev mark_any l1
  obtain ⟨y, ⟨K2, e2⟩, g2⟩ := state_ev mark_any l2
  obtain ⟨K3, e3⟩ := refmerge_is g0.tidy g1.tidy g2.tidy (g0.small (by omega)) (g1.small (by omega)) (g2.small (by omega))
  have hsm := mergeP_small g0.tidy g1.tidy g2.tidy (g0.small (Nat.le_refl _)) (g1.small (Nat.le_refl _)) (g2.small (Nat.le_refl _))
  obtain ⟨K4, e4⟩ := same_refl (l := mergeP o x y) ⟨by have := hsm.1; omega, fun s hs => by have := hsm.2 s hs; omega⟩
  exact law_merges_calls (K0 + K1 + K2 + K3 + K4) A0 c0 l0 A1 c1 l1 A2 c2 l2 w hr0 hc0 hr1 hc1 hr2 hc2 o x y (mergeP o x y) (e0 _ (by omega)) (e1 _ (by omega)) (e2 _ (by omega))
    (merge_f (g0.small (Nat.le_refl _)) (g1.small (Nat.le_refl _)) (g2.small (Nat.le_refl _)) (by omega)) (e3 _ (by omega)) (e4 _ (by omega))
end Go.Proofs.Ytcecekmhikmkhaa.M
