/- Plain facts: every mark leads to a state; a state is short enough for merge3's contracts. -/
import Derived.Test.YtcecekmhikmkhaaP4
namespace Go.Proofs.Ytcecekmhikmkhaa.M
open Go.RowKit Go.Proofs.YtcecekmhikmkhaaW.PrintWords Go.Proofs.YtcecekmhikmkhaaW.PrintLast Go.Proofs.YtcecekmhikmkhaaW.PrintMore
set_option linter.unusedVariables false
set_option linter.unusedSimpArgs false
theorem mod_some {a b : Int} (h : 1 ≤ b) : ∃ r, semvcsmade2_Mod.f a b = some r := by
  unfold semvcsmade2_Mod.f
  rw [if_neg (by omega), if_neg (by omega)]
  exact ⟨_, rfl⟩
theorem id_some (a : Int) {b : Int} (h : 1 ≤ b) : ∃ r, semvcsmade2_Id.f a b = some r := by
  unfold semvcsmade2_Id.f
  obtain ⟨x, hx⟩ := mod_some (a := a) (b := 3) (by omega)
  obtain ⟨y, hy⟩ := mod_some (a := wrap64 (Int.tdiv a 3)) h
  rw [hx, Option.bind_some, hy, Option.bind_some]
  exact ⟨_, rfl⟩
theorem fields_some (a : Int) : ∃ r, semvcsmade2_fields.f a = some r := by
  unfold semvcsmade2_fields.f
  obtain ⟨x, hx⟩ := mod_some (a := a) (b := 5) (by omega)
  obtain ⟨y, hy⟩ := mod_some (a := wrap64 (Int.tdiv a 5)) (b := 3) (by omega)
  rw [hx, Option.bind_some, hy, Option.bind_some]
  split
  · exact ⟨_, rfl⟩
  · split
    · exact ⟨_, rfl⟩
    · split
      · exact ⟨_, rfl⟩
      · split <;> exact ⟨_, rfl⟩
theorem value_some (a b c : Int) : ∃ v1 v2 v3 v4, semvcsmade2_Value.f a b c = some (v1, v2, v3, v4) := by
  unfold semvcsmade2_Value.f
  obtain ⟨x, hx⟩ := mod_some (a := c) (b := 4) (by omega)
  obtain ⟨y, hy⟩ := mod_some (a := wrap64 (a + c)) (b := 3) (by omega)
  obtain ⟨z, hz⟩ := mod_some (a := wrap64 (b * c)) (b := 2) (by omega)
  rw [hx, Option.bind_some, hy, Option.bind_some, hz, Option.bind_some]
  exact ⟨_, _, _, _, rfl⟩
theorem mark_any (m : S44) : MarkOk (fun _ _ _ => True) m := by
  obtain ⟨id, h1⟩ := id_some m.f0 (b := 3) (by omega)
  obtain ⟨fd, h2⟩ := fields_some m.f1
  obtain ⟨st, h3⟩ := id_some m.f2 (b := 4) (by omega)
  obtain ⟨v1, v2, v3, v4, h4⟩ := value_some id fd st
  exact ⟨id, fd, st, v1, v2, v3, v4, h1, h2, h3, h4, trivial⟩
theorem small_smallS {n : Nat} {l : List S53} (h : Small n l) (hn : n ≤ 1000000) : smallS l = true := by
  unfold smallS
  rw [Bool.and_eq_true, List.all_eq_true]
  refine ⟨decide_eq_true (by have := h.1; omega), fun s hs => decide_eq_true (by have := h.2 s hs; omega)⟩
end Go.Proofs.Ytcecekmhikmkhaa.M
