/- The orders by which merge3 compares slots and alternatives, as the printed functions tell them; a slot's cells. -/
import Derived.Test.YtcecekmhikmkhaaH0
import Derived.Test.YtcecekmhikmkhaaH2
import Derived.Test.YtcecekmhikmkhaaMx3
namespace Go.Proofs.Ytcecekmhikmkhaa.M
open Go.RowKit Go.Proofs.YtcecekmhikmkhaaW.PrintWords Go.Proofs.YtcecekmhikmkhaaW.PrintLast Go.Proofs.YtcecekmhikmkhaaW.PrintMore
set_option linter.unusedVariables false
section
variable {P : Program} {ops : Array Oper} {Q : Exit → Act → World → Prop}
/-- A call of a function value (a slot holds it), by the contract of its function. -/
theorem goesV_ {oi : Oper} {N : Option Tmp} {a : Act} {w : World} {K : Act → World → Prop} {f : FuncId} {as0 : Array Operand} {ts : Array TypeId} {t : Tmp} {lb : Array Value} (hent : ∀ args W, (callFunc f args).run P W = .ok (.enter f args) W) (args : Array Value)
    (hw : Region.wanted oi (yielded ops a.tmps) = true) (hN : oi.dst = N) (hop : oi.op = .call { callee := .value (.tmp t), args := as0, argTypes := ts }) (hfv : a.eval (.tmp t) = .func (.func f) #[] lb) (hargs : as0.map a.eval = args)
    (h : Calls P f (args ++ lb) w fun e w' => ∃ v, e = .returned v ∧ K (a.put N v) w') : if Region.wanted oi (yielded ops a.tmps) = true then Oper.wp P oi a w K Q else K (a.put N undef) w := by
  refine call_ f (args ++ lb) hw hN ?_ h
  have he := hent (args ++ lb) w
  unfold execOp
  simp [hop, resolve, Deferred.ofValue, invoke, hfv, hargs, he]
/-- The same in a plain region. -/
theorem goesVL_ {rest : List Oper} {oi : Oper} {a : Act} {w : World} (N : Option Tmp) (hd : oi.dst = N) (hg : oi.guard = none) {f : FuncId} {as0 : Array Operand} {ts : Array TypeId} {t : Tmp} {lb : Array Value} (hent : ∀ args W, (callFunc f args).run P W = .ok (.enter f args) W) (args : Array Value)
    (hop : oi.op = .call { callee := .value (.tmp t), args := as0, argTypes := ts }) (hfv : a.eval (.tmp t) = .func (.func f) #[] lb) (hargs : as0.map a.eval = args)
    (h : Calls P f (args ++ lb) w fun e w' => ∃ v, e = .returned v ∧ wpList P ops Q rest (a.put N v) w') : wpList P ops Q (oi :: rest) a w := by
  refine wpList_plain hg fun K hK => ?_
  have he := hent (args ++ lb) w
  have hrun : (execOp a.eval oi).run P w = .ok (.enter f (args ++ lb)) w := by
    unfold execOp
    simp [hop, resolve, Deferred.ofValue, invoke, hfv, hargs, he]
  unfold Oper.wp
  rw [hrun, Oper.upon_enter]
  refine h.mono fun e w'' hh => ?_
  obtain ⟨v, rfl, hk⟩ := hh
  subst hd
  exact hK _ _ hk
end
/-- A block of three cells. -/
def arr3 (f : Nat → Value) : Array Value := #[f 0, f 1, f 2]
theorem arr3_set {f : Nat → Value} {k : Nat} (hk : k < 3) (v : Value) : (arr3 f).setIfInBounds k v = arr3 (upd f k v) := by
  rcases (by omega : k = 0 ∨ k = 1 ∨ k = 2) with rfl | rfl | rfl <;> simp [arr3, upd]
theorem arr3_congr {f g : Nat → Value} (h : ∀ i, i < 3 → f i = g i) : arr3 f = arr3 g := by
  unfold arr3
  rw [h 0 (by omega), h 1 (by omega), h 2 (by omega)]
theorem arr3_at {f : Nat → Value} {k : Nat} (hk : k < 3) : (arr3 f)[k]? = some (f k) := by
  rcases (by omega : k = 0 ∨ k = 1 ∨ k = 2) with rfl | rfl | rfl <;> rfl
def cmpI (a b : Int) : Int := if a < b then -1 else if a > b then 1 else 0
theorem cmpI_self (a : Int) : cmpI a a = 0 := by simp [cmpI]
theorem cmpI_zero {a b : Int} : cmpI a b = 0 ↔ a = b := by unfold cmpI; split <;> (try split) <;> omega
theorem cmpI_neg {a b : Int} : cmpI a b < 0 ↔ a < b := by unfold cmpI; split <;> (try split) <;> omega
def cmpA (x y : S49) : Int := cmpI x.f0 y.f0
def cmpS (x y : S53) : Int := if cmpI x.f0 y.f0 = 0 then cmpI x.f1 y.f1 else cmpI x.f0 y.f0
theorem cmpA_self (x : S49) : cmpA x x = 0 := cmpI_self _
theorem cmpS_self (x : S53) : cmpS x x = 0 := by simp [cmpS, cmpI_self]
theorem compare_is (a b : Int) : cmp_Compare_int.f a b = some (cmpI a b) := by
  simp only [cmp_Compare_int.f, cmp_isNaN_int.f, Option.bind_some, bne_self_eq_false, cmpI]
  simp only [Bool.false_eq_true, if_false]
  split
  · rfl
  · split <;> rfl
theorem compareAlts_is (x y : S49) : merge3_compareAlts.f x.f0 x.f1.f0 x.f1.f1 x.f1.f2 x.f1.f3 y.f0 y.f1.f0 y.f1.f1 y.f1.f2 y.f1.f3 = some (cmpA x y) := by
  unfold merge3_compareAlts.f
  rw [compare_is]
  rfl
theorem or_two (a b : Int) : cmp_Or_int.f 3 [a, b] = some (if a = 0 then b else a) := by
  simp only [cmp_Or_int.f, cmp_Or_int.l0, List.length_cons, List.length_nil]
  by_cases ha : a = 0
  · subst ha
    by_cases hb : b = 0
    · subst hb; simp [rd, wrap64]
    · simp [rd, wrap64, hb]
  · simp [rd, ha]
theorem compareSlots_is (x y : S53) : merge3_compareSlots.f 3 x.f0 x.f1 x.f2 y.f0 y.f1 y.f2 = some (cmpS x y) := by
  unfold merge3_compareSlots.f
  rw [compare_is, compare_is]
  simp only [Option.bind_some]
  rw [or_two]
  rfl
/-- The three cells of a slot, and its alternatives. -/
def Three (w : World) (a : Addr) (x : S53) (A2 : Option Addr) (c2 : Nat) : Prop := w.cell? a = some (.int .i64 x.f0) ∧ w.cell? ⟨a.block, a.off + 1, none⟩ = some (.int .i64 x.f1) ∧ w.cell? ⟨a.block, a.off + 2, none⟩ = some (.slice A2 x.f2.length c2) ∧ x.f2.length ≤ c2 ∧ Kd.C k49 w A2 x.f2.length x.f2
def Slot? (w : World) (p : Option Addr) (x : Option S53) : Prop := (p = none ∧ x = none) ∨ ∃ a e A2 c2, p = some a ∧ x = some e ∧ Three w a e A2 c2
theorem three_below {w w1 : World} {a : Addr} {x : S53} {A2 : Option Addr} {c2 : Nat} (h : Three w a x A2 c2) (hb : Below w.heap.size w w1) : Three w1 a x A2 c2 := ⟨pw_cell_below hb h.1, pw_cell_below hb h.2.1, pw_cell_below hb h.2.2.1, h.2.2.2.1, Kd.C_below h.2.2.2.2 hb⟩
theorem slot?_below {w w1 : World} {p : Option Addr} {x : Option S53} (h : Slot? w p x) (hb : Below w.heap.size w w1) : Slot? w1 p x := h.elim .inl (fun ⟨a, e, A2, c2, hp, hx, hf⟩ => .inr ⟨a, e, A2, c2, hp, hx, three_below hf hb⟩)
end Go.Proofs.Ytcecekmhikmkhaa.M
