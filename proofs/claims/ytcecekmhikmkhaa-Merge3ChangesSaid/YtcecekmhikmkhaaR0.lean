/- What an argument of the type []Mark (slices of structs of three whole numbers) reads as: a list of marks, for all arguments that read. -/
import Derived.Test.YtcecekmhikmkhaaMx0
import Derived.Deep.Slices
namespace Go.Proofs.Ytcecekmhikmkhaa.M
open Go.RowKit Go.Proofs.YtcecekmhikmkhaaW.PrintWords Go.Proofs.YtcecekmhikmkhaaW.PrintLast Go.Proofs.YtcecekmhikmkhaaW.PrintMore
open Go.ChangeShapes Go.WideShapes Go.Deep
set_option linter.unusedVariables false
theorem one_list {α : Type} {cs : List α} (h : cs.length = 3) : ∃ a b c, cs = [a, b, c] := by
  match cs, h with
  | [a, b, c], _ => exact ⟨a, b, c, rfl⟩
theorem open_marks {H : Type} {enc : TypeId × Value → H} {W : World} {base : Nat} {spare : Nat → Bool} {held : Bool} {A : Option Addr} {len cap : Nat} {d : DataW H} {ps : List MemPlace}
    (h : DataW.Trod enc Try.prog W base spare held 22 (.slice A len cap) d ps) : ∃ l : List S44, l.length = len ∧ len ≤ cap ∧ Kd.C k44 W A len l := by
  obtain ⟨fuel, hf⟩ := h
  rcases open_slice Try.underlying22 hf with ⟨hcs, _⟩ | ⟨a, len', cap', m, n, D, Pl, hcs, _, hl, hm, hmm, _, hx⟩
  · simp [Value.cells] at hcs
    obtain ⟨rfl, rfl, rfl⟩ := hcs
    exact ⟨[], rfl, Nat.le_refl _, Kd.C_nil _ _⟩
  · simp [Value.cells] at hcs
    obtain ⟨rfl, rfl, rfl⟩ := hcs
    have hlm : len ≤ m := by rw [hmm]; split <;> omega
    have c44 : Try.prog.cellsOf 44 = 3 := by kernel_rfl
    have c3 : Try.prog.cellsOf 3 = 1 := by kernel_rfl
    have each : ∀ i, i < len → ∃ q : Int × Int × Int, W.cell? (a.add (i * 3)) = some (.int .i64 q.1) ∧ W.cell? (a.add (i * 3 + 1)) = some (.int .i64 q.2.1) ∧ W.cell? (a.add (i * 3 + 2)) = some (.int .i64 q.2.2) := by
      intro i hi
      obtain ⟨cs', h1, h2⟩ := hx i (by omega)
      rw [c44] at h1
      obtain ⟨_, hlen, hcell⟩ := World.cells?_some h1
      obtain ⟨xs, k, _, _, _, hxl, hff⟩ := DataW.trod_struct Try.underlying44 h2
      obtain ⟨v0, v1, v2, rfl⟩ := one_list hlen
      have ex : ∀ j, j < 3 → ∃ y, xs[j]? = some y := fun j hj => ⟨_, List.getElem?_eq_getElem (show j < xs.length by rw [hxl]; exact hj)⟩
      obtain ⟨y0, e0⟩ := ex 0 (by omega)
      obtain ⟨y1, e1⟩ := ex 1 (by omega)
      obtain ⟨y2, e2⟩ := ex 2 (by omega)
      have g0 : DataW.trod enc Try.prog W base spare held k 3 [v0] = some y0 := by
        have := hff 0 _ rfl
        rw [e0] at this
        simpa [c3] using this
      have g1 : DataW.trod enc Try.prog W base spare held k 3 [v1] = some y1 := by
        have := hff 1 _ rfl
        rw [e1] at this
        simpa [c3] using this
      have g2 : DataW.trod enc Try.prog W base spare held k 3 [v2] = some y2 := by
        have := hff 2 _ rfl
        rw [e2] at this
        simpa [c3] using this
      obtain ⟨n0, z0, _, _⟩ := DataW.trod_int Try.underlying3 g0
      obtain ⟨n1, z1, _, _⟩ := DataW.trod_int Try.underlying3 g1
      obtain ⟨n2, z2, _, _⟩ := DataW.trod_int Try.underlying3 g2
      simp only [List.cons.injEq, and_true] at z0 z1 z2
      subst z0 z1 z2
      have f0 := hcell 0 (by omega)
      have f1 := hcell 1 (by omega)
      have f2 := hcell 2 (by omega)
      rw [Deep.add_add] at f0 f1 f2
      exact ⟨(n0, n1, n2), by simpa using f0, by simpa using f1, by simpa using f2⟩
    obtain ⟨q, hq⟩ := choose_lt each
    refine ⟨(List.range len).map fun i => ⟨(q i).1, (q i).2.1, (q i).2.2⟩, by simp, hl, by simp, by have : maxLen ≤ 9223372036854775807 := (by decide); omega, fun _ => ⟨a, rfl, ?_⟩⟩
    intro j p hp
    rw [List.getElem?_map] at hp
    have hj : j < len := by
      rcases Nat.lt_or_ge j len with h | h
      · exact h
      · rw [List.getElem?_eq_none (by simpa using h)] at hp; simp at hp
    rw [List.getElem?_range hj] at hp
    simp only [Option.map_some, Option.some.injEq] at hp
    subst hp
    refine ⟨_, rfl, k44_mk W _, ?_⟩
    intro i u hi
    have h3 := hq j hj
    have hi3 : i < 3 := by
      rcases Nat.lt_or_ge i 3 with h | h
      · exact h
      · rw [List.getElem?_eq_none (by simpa using h)] at hi; cases hi
    show W.cell? (a.add (j * 3 + i)) = some u
    match i, hi3 with
    | 0, _ => simp only [List.getElem?_cons_zero, Option.some.injEq] at hi; subst hi; exact h3.1
    | 1, _ => simp only [List.getElem?_cons_succ, List.getElem?_cons_zero, Option.some.injEq] at hi; subst hi; exact h3.2.1
    | 2, _ => simp only [List.getElem?_cons_succ, List.getElem?_cons_zero, Option.some.injEq] at hi; subst hi; exact h3.2.2
end Go.Proofs.Ytcecekmhikmkhaa.M
