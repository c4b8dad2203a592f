/- Merge3Changes: its law function returns true for all lists of marks (the walk joined with the plain law). -/
import Derived.Test.YtcecekmhikmkhaaLb0
import Derived.Test.YtcecekmhikmkhaaLc
import Derived.Test.YtcecekmhikmkhaaP5
namespace Go.Proofs.Ytcecekmhikmkhaa.M
open Go.RowKit Go.Proofs.YtcecekmhikmkhaaW.PrintWords Go.Proofs.YtcecekmhikmkhaaW.PrintLast Go.Proofs.YtcecekmhikmkhaaW.PrintMore
set_option linter.unusedVariables false
theorem sameSpots_refl {l : List S36} (hl : l.length ≤ 1000000) : Ev (fun k => semvcslaw28_sameSpots.f k l l) true := by
  have H : ∀ (d i : Nat), i + d = l.length → Ev (fun k => semvcslaw28_sameSpots.l0 k l l (i : Int)) true := by
    intro d
    induction d with
    | zero => intro i hi; exact Ev.step (fun k => by rw [semvcslaw28_sameSpots.l0]) (Ev.neg (by omega) (Ev.const fun k => rfl))
    | succ d ih =>
      intro i hi
      refine Ev.step (fun k => by rw [semvcslaw28_sameSpots.l0]) (Ev.pos (by omega) (Ev.pos (by omega) (Ev.pos (by omega) (Ev.neg (by simp) ?_))))
      rw [wrap_nat (by omega)]
      exact ih (i + 1) (by omega)
  exact Ev.pos rfl (H l.length 0 (by omega))
theorem changedP_len (o x : List S53) : (changedP o x).length ≤ o.length + x.length := by
  have h1 := flat_le keptC (fun r => by unfold keptC; split <;> simp) (rowsOf cmpS (pick3 o x []))
  have h2 := rowsOf_length cmpS_self _ (pick3 o x []) (Nat.le_refl _)
  have h3 : total (pick3 o x []) = o.length + x.length + 0 := rfl
  unfold changedP
  omega
theorem bothP_len (o x y : List S53) : (bothP o x y).length ≤ o.length + x.length + y.length := by
  have h1 := flat_le keptB (fun r => by unfold keptB; split <;> simp) (rowsOf cmpS (pick3 o x y))
  have h2 := rowsOf_length cmpS_self _ (pick3 o x y) (Nat.le_refl _)
  have h3 : total (pick3 o x y) = o.length + x.length + y.length := rfl
  unfold bothP
  omega
theorem changed_f {n : Nat} {o x : List S53} (so : Small n o) (sx : Small n x) (hn : n ≤ 1000000) : merge3_Changed.f o x = some (changedP o x) := by
  unfold merge3_Changed.f
  rw [small_smallS so hn, small_smallS sx hn]
  rfl
theorem both_f {n : Nat} {o x y : List S53} (so : Small n o) (sx : Small n x) (sy : Small n y) (hn : n ≤ 1000000) : merge3_Both.f o x y = some (bothP o x y) := by
  unfold merge3_Both.f
  rw [small_smallS so hn, small_smallS sx hn, small_smallS sy hn]
  rfl
theorem merge3Changes_walk (A0 : Option Addr) (c0 : Nat) (l0 : List S44) (A1 : Option Addr) (c1 : Nat) (l1 : List S44) (A2 : Option Addr) (c2 : Nat) (l2 : List S44) (w : World) (hr0 : Kd.C k44 w A0 l0.length l0) (hc0 : l0.length ≤ c0) (hr1 : Kd.C k44 w A1 l1.length l1) (hc1 : l1.length ≤ c1) (hr2 : Kd.C k44 w A2 l2.length l2) (hc2 : l2.length ≤ c2) :
    Calls Try.prog 4 #[.slice A0 l0.length c0, .slice A1 l1.length c1, .slice A2 l2.length c2] w fun e w' => e = .returned (.bool true) ∧ Below w.heap.size w w' := by
  obtain ⟨o, ⟨K0, e0⟩, g0⟩ := state_ev mark_any l0
  obtain ⟨x, ⟨K1, e1⟩, g1⟩ := state_ev mark_any l1
  obtain ⟨y, ⟨K2, e2⟩, g2⟩ := state_ev mark_any l2
  obtain ⟨K3, e3⟩ := refchanged_ev g0.tidy g1.tidy (g0.small (by omega)) (g1.small (by omega))
  obtain ⟨K4, e4⟩ := refboth_ev g0.tidy g1.tidy g2.tidy (g0.small (by omega)) (g1.small (by omega)) (g2.small (by omega))
  have n0 := g0.len
  have n1 := g1.len
  have n2 := g2.len
  obtain ⟨K5, e5⟩ := sameSpots_refl (l := changedP o x) (by have := changedP_len o x; omega)
  obtain ⟨K6, e6⟩ := sameSpots_refl (l := bothP o x y) (by have := bothP_len o x y; omega)
  exact law_changes_calls (K0 + K1 + K2 + K3 + K4 + K5 + K6) A0 c0 l0 A1 c1 l1 A2 c2 l2 w hr0 hc0 hr1 hc1 hr2 hc2 o x y (changedP o x) (bothP o x y) (e0 _ (by omega)) (e1 _ (by omega)) (e2 _ (by omega))
    (changed_f (g0.small (Nat.le_refl _)) (g1.small (Nat.le_refl _)) (by omega)) (e3 _ (by omega)) (e5 _ (by omega)) (both_f (g0.small (Nat.le_refl _)) (g1.small (Nat.le_refl _)) (g2.small (Nat.le_refl _)) (by omega)) (e4 _ (by omega)) (e6 _ (by omega))
end Go.Proofs.Ytcecekmhikmkhaa.M
