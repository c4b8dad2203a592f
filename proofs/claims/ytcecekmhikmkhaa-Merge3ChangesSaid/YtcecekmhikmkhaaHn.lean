/- Small facts that the reference's walks share: which register is ahead, and a slot with its number in a list that reads as data. -/
import Derived.Test.YtcecekmhikmkhaaH3
import Derived.Test.YtcecekmhikmkhaaMx3
namespace Go.Proofs.Ytcecekmhikmkhaa.M
open Go.RowKit Go.Proofs.YtcecekmhikmkhaaW.PrintWords Go.Proofs.YtcecekmhikmkhaaW.PrintLast Go.Proofs.YtcecekmhikmkhaaW.PrintMore
set_option linter.unusedVariables false
set_option linter.unusedSimpArgs false
def aheadB (x y : S53) : Bool := decide (x.f0 < y.f0) || decide (x.f0 = y.f0) && decide (x.f1 < y.f1)
theorem ahead_is (x y : S53) : semvcsref25_Ahead.f x.f0 x.f1 y.f0 y.f1 = some (aheadB x y) := by
  unfold semvcsref25_Ahead.f aheadB
  by_cases h1 : x.f0 < y.f0
  · simp [h1]
  · by_cases h2 : x.f0 = y.f0
    · simp [h2]
    · simp [h1, h2]
/-- The slot with number i of a list that reads as data. -/
theorem slot_at {w0 w' : World} {A : Option Addr} {l pre t : List S53} {x : S53} (h : Kd.C k53 w0 A l.length l) (hl : l = pre ++ x :: t) (hb : Below w0.heap.size w0 w') :
    ∃ (ad : Addr) (A2 : Option Addr) (c2 : Nat), A = some ad ∧ Three w' (ad.add (pre.length * 3)) x A2 c2 := by
  have hlt : pre.length < l.length := by rw [hl]; simp
  obtain ⟨ad, A2, c2, e, h0, h1, h2, h3, h4⟩ := at_T53 (Kd.C_below h hb) (pre.length : Int) (by omega) (by omega)
  have hx : rd_T53 l (pre.length : Int) = x := by unfold rd_T53; rw [hl]; simp [List.getD_eq_getElem?_getD]
  rw [hx] at h0 h1 h2 h3 h4
  exact ⟨ad, A2, c2, e, h0, h1, h2, h3, h4⟩
theorem or5 {a b c d e p : Prop} (h : a ∨ b ∨ c ∨ d ∨ e) (ha : a → p) (hb : b → p) (hc : c → p) (hd : d → p) (he : e → p) : p := by
  rcases h with h | h | h | h | h
  · exact ha h
  · exact hb h
  · exact hc h
  · exact hd h
  · exact he h
end Go.Proofs.Ytcecekmhikmkhaa.M
