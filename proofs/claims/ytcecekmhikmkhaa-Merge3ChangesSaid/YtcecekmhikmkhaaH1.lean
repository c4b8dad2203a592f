/- Contracts of merge3.alternatives (function 31) and merge3.register (function 33): what they return for every row of three pointers that reads as data. -/
import Derived.Test.YtcecekmhikmkhaaMx0
import Derived.LoopN
namespace Go.Proofs.Ytcecekmhikmkhaa.M
open Go.RowKit Go.Proofs.YtcecekmhikmkhaaW.PrintWords Go.Proofs.YtcecekmhikmkhaaW.PrintLast Go.Proofs.YtcecekmhikmkhaaW.PrintMore
set_option linter.unusedVariables false
theorem ix58_0 (a b c : Value) (w : World) : (Instr.index 58 (.agg #[a, b, c]) (.int .i64 0)).run Try.prog w = .ok a w := by kernel_rfl
theorem ix58_1 (a b c : Value) (w : World) : (Instr.index 58 (.agg #[a, b, c]) (.int .i64 1)).run Try.prog w = .ok b w := by kernel_rfl
theorem ix58_2 (a b c : Value) (w : World) : (Instr.index 58 (.agg #[a, b, c]) (.int .i64 2)).run Try.prog w = .ok c w := by kernel_rfl
attribute [local go_sem] ix58_0 ix58_1 ix58_2
structure OldB (w : World) (b : Nat) : Prop where
  l0 : b < w.heap.size
  l1 : b < w.heap.size + 1
  l2 : b < w.heap.size + 1 + 1
  l3 : b < w.heap.size + 1 + 1 + 1
  n0 : ¬ w.heap.size = b
  n1 : ¬ w.heap.size + 1 = b
  n2 : ¬ w.heap.size + 1 + 1 = b
theorem oldB {w : World} {a : Addr} {u : Value} (h : w.cell? a = some u) : OldB w a.block := by
  have := World.block_lt_of_cell? w a h
  constructor <;> omega
/-- The third cell (the alternatives) of the slot at a pointer. -/
def AltsAt (w : World) (p : Option Addr) (A : Option Addr) (n c : Nat) : Prop := (p = none → A = none ∧ n = 0 ∧ c = 0) ∧ ∀ a, p = some a → w.cell? ⟨a.block, a.off + 2, none⟩ = some (.slice A n c)
theorem AltsAt.open_ {w : World} {p A : Option Addr} {n c : Nat} (h : AltsAt w p A n c) : (p = none ∧ A = none ∧ n = 0 ∧ c = 0) ∨ ∃ a, p = some a ∧ w.cell? ⟨a.block, a.off + 2, none⟩ = some (.slice A n c) ∧ OldB w a.block := by
  cases p with
  | none => exact .inl ⟨rfl, h.1 rfl⟩
  | some a => exact .inr ⟨a, rfl, h.2 a rfl, oldB (a := ⟨a.block, a.off + 2, none⟩) (h.2 a rfl)⟩
set_option maxRecDepth 100000 in
set_option maxHeartbeats 4000000 in
theorem alternatives_calls (w : World) (p q r A B C : Option Addr) (n m l c d e : Nat) (h1 : AltsAt w p A n c) (h2 : AltsAt w q B m d) (h3 : AltsAt w r C l e) : Calls Try.prog 31 #[.agg #[.pointer p, .pointer q, .pointer r]] w fun e_ w' => e_ = .returned (.agg #[.slice A n c, .slice B m d, .slice C l e]) ∧ Below w.heap.size w w' := by
  rcases h1.open_ with ⟨rfl, rfl, rfl, rfl⟩ | ⟨a1, rfl, g1, l10, l11, l12, l13, n10, n11, n12⟩ <;> rcases h2.open_ with ⟨rfl, rfl, rfl, rfl⟩ | ⟨a2, rfl, g2, l20, l21, l22, l23, n20, n21, n22⟩ <;> rcases h3.open_ with ⟨rfl, rfl, rfl, rfl⟩ | ⟨a3, rfl, g3, l30, l31, l32, l33, n30, n31, n32⟩ <;> clear h1 h2 h3
  all_goals
    go_enter Try.func31, Try.ntmps31
    go_wp2
    refine wp_loop_rounds 4 ?_
    rw [rounds_succ]
    go_wp2
    rw [rounds_succ]
    go_wp2
    rw [rounds_succ]
    go_wp2
    rw [rounds_succ]
    go_wp2
    refine bodyPost_ret (v := .agg #[.slice _ _ _, .slice _ _ _, .slice _ _ _]) (by simp [results, Try.results31, go_sem]) rfl ⟨rfl, ?_⟩
    repeat (first | exact Below.refl _ _ | apply below_alloc)
theorem oldB_off {w : World} {a : Addr} {u : Value} (n : Nat) (h : w.cell? ⟨a.block, n, none⟩ = some u) : OldB w a.block := oldB (a := ⟨a.block, n, none⟩) h
set_option maxRecDepth 100000 in
set_option maxHeartbeats 4000000 in
theorem register_calls (w : World) (p q r : Option Addr) (a : Addr) (i f : Int) (h : p = some a ∨ p = none ∧ q = some a ∨ p = none ∧ q = none ∧ r = some a) (h0 : w.cell? a = some (.int .i64 i)) (h1 : w.cell? ⟨a.block, a.off + 1, none⟩ = some (.int .i64 f)) : Calls Try.prog 33 #[.agg #[.pointer p, .pointer q, .pointer r]] w fun e_ w' => e_ = .returned (.agg #[.int .i64 i, .int .i64 f]) ∧ Below w.heap.size w w' := by
  obtain ⟨l0, l1, l2, l3, n0, n1, n2⟩ := oldB h0
  have g0 : ∀ o1 o2 : Obj, ((w.alloc o1).alloc o2).drew.cell? a = some (.int .i64 i) := fun o1 o2 => pw_cell_below (below_drew (below_alloc (below_alloc (Below.refl _ _) _) _)) h0
  have g1 : ∀ o1 o2 : Obj, ((w.alloc o1).alloc o2).drew.cell? ⟨a.block, a.off + 1, none⟩ = some (.int .i64 f) := fun o1 o2 => pw_cell_below (below_drew (below_alloc (below_alloc (Below.refl _ _) _) _)) h1
  rcases h with rfl | ⟨rfl, rfl⟩ | ⟨rfl, rfl, rfl⟩
  · cases q <;> cases r
    all_goals
      go_enter Try.func33, Try.ntmps33
      go_wp2
      refine wp_loop_rounds 4 ?_
      rw [rounds_succ]
      go_wp2
      go_region_held3 (fun w' => w'.cell? a = some (.int .i64 i) ∧ w'.cell? ⟨a.block, a.off + 1, none⟩ = some (.int .i64 f)) (go_keep) (fail)
      go_wp2
      refine bodyPost_ret (v := .agg #[.int .i64 i, .int .i64 f]) (by simp [results, Try.results33, go_sem]) rfl ⟨rfl, ?_⟩
      repeat (first | exact Below.refl _ _ | apply below_alloc | apply below_drew)
  · cases r
    all_goals
      go_enter Try.func33, Try.ntmps33
      go_wp2
      refine wp_loop_rounds 4 ?_
      rw [rounds_succ]
      go_wp2
      rw [rounds_succ]
      go_wp2
      go_region_held3 (fun w' => w'.cell? a = some (.int .i64 i) ∧ w'.cell? ⟨a.block, a.off + 1, none⟩ = some (.int .i64 f)) (go_keep) (fail)
      go_wp2
      refine bodyPost_ret (v := .agg #[.int .i64 i, .int .i64 f]) (by simp [results, Try.results33, go_sem]) rfl ⟨rfl, ?_⟩
      repeat (first | exact Below.refl _ _ | apply below_alloc | apply below_drew)
  · skip
    all_goals
      go_enter Try.func33, Try.ntmps33
      go_wp2
      refine wp_loop_rounds 4 ?_
      rw [rounds_succ]
      go_wp2
      rw [rounds_succ]
      go_wp2
      rw [rounds_succ]
      go_wp2
      go_region_held3 (fun w' => w'.cell? a = some (.int .i64 i) ∧ w'.cell? ⟨a.block, a.off + 1, none⟩ = some (.int .i64 f)) (go_keep) (fail)
      go_wp2
      refine bodyPost_ret (v := .agg #[.int .i64 i, .int .i64 f]) (by simp [results, Try.results33, go_sem]) rfl ⟨rfl, ?_⟩
      repeat (first | exact Below.refl _ _ | apply below_alloc | apply below_drew)
end Go.Proofs.Ytcecekmhikmkhaa.M
