/- The contract of the closure of merge3.mergeAlts: it appends to what it captured the alternative that the merge keeps of a row. For every row that reads as data. -/
import Derived.Test.YtcecekmhikmkhaaH1
namespace Go.Proofs.Ytcecekmhikmkhaa.M
open Go.RowKit Go.Proofs.YtcecekmhikmkhaaW.PrintWords Go.Proofs.YtcecekmhikmkhaaW.PrintLast Go.Proofs.YtcecekmhikmkhaaW.PrintMore
set_option linter.unusedVariables false
set_option linter.unusedSimpArgs false

/-- The five cells of an alternative. -/
def Five (w : World) (a : Addr) (x : S49) : Prop := w.cell? a = some (.int .i64 x.f0) ∧ w.cell? ⟨a.block, a.off + 1, none⟩ = some (.int .i64 x.f1.f0) ∧ w.cell? ⟨a.block, a.off + 2, none⟩ = some (.bool x.f1.f1) ∧ w.cell? ⟨a.block, a.off + 3, none⟩ = some (.string x.f1.f2) ∧ w.cell? ⟨a.block, a.off + 4, none⟩ = some (.int .i64 x.f1.f3)
/-- A pointer of a row: nil, or to an alternative. -/
def Alt? (w : World) (p : Option Addr) (x : Option S49) : Prop := (p = none ∧ x = none) ∨ ∃ a e, p = some a ∧ x = some e ∧ Five w a e
theorem five_below {w w1 : World} {a : Addr} {x : S49} (h : Five w a x) (hb : Below w.heap.size w w1) : Five w1 a x := ⟨pw_cell_below hb h.1, pw_cell_below hb h.2.1, pw_cell_below hb h.2.2.1, pw_cell_below hb h.2.2.2.1, pw_cell_below hb h.2.2.2.2⟩
theorem alt?_below {w w1 : World} {p : Option Addr} {x : Option S49} (h : Alt? w p x) (hb : Below w.heap.size w w1) : Alt? w1 p x := h.elim .inl (fun ⟨a, e, hp, hx, hf⟩ => .inr ⟨a, e, hp, hx, five_below hf hb⟩)
/-- What the merge keeps of a row (base, a, b). -/
def keptAlt : Option S49 → Option S49 → Option S49 → List S49
  | none, some a, _ => [a]
  | none, none, some b => [b]
  | some _, some a, some _ => [a]
  | _, _, _ => []
theorem cell_alloc_some {w : World} {a : Addr} {o : Obj} {u : Value} (h : w.cell? a = some u) : (w.alloc o).cell? a = some u := (World.cell?_alloc_some w a o (by rw [h]; rfl)).trans h
theorem visit_done {w w0 wz w1 : World} {B g : Nat} {v v1 : Value} {xs ys : List S49} {ok : Nat → Prop} (hb1 : Below w.heap.size w wz) (hgz : wz.heap[g]? = some (.cells #[v] 37 (0, 0))) (hgl : g < w.heap.size) (hBg : B ≤ g) (HRz : Kd.R k49 49 wz B ok v xs)
    (ho : Kd.R k49 49 w1 B (fun k => ok k ∨ w.heap.size ≤ k) v1 ys) (hb : Below B w0 w1) (hg : wz.grownBy w1 v.ownBlock) :
    ∃ v' : Value, (w1.setCell ⟨g, 0, none⟩ v1).heap[g]? = some (.cells #[v'] 37 (0, 0)) ∧ Kd.R k49 49 (w1.setCell ⟨g, 0, none⟩ v1) B (fun k => ok k ∨ w.heap.size ≤ k) v' ys ∧ Below B w0 (w1.setCell ⟨g, 0, none⟩ v1) ∧ Kept w (w1.setCell ⟨g, 0, none⟩ v1) (fun k => k = g ∨ some k = v.ownBlock) := by
  have hne : some g ≠ v.ownBlock := Kd.R_ne HRz hgz (by decide)
  have hg1 : w1.heap[g]? = some (.cells #[v] 37 (0, 0)) := blk_grown hgz hg hne
  refine ⟨v1, blk_put hg1 0 v1 rfl, Kd.R_set ho hg1 (by decide) 0 v1, hb.setCell hBg v1, ?_⟩
  refine Kept.setCell (Kept.of_grown hg (Kept.of_below hb1 _) (fun k hk => .inl (.inr hk.symm))) (.inl (.inl rfl)) v1
set_option maxRecDepth 100000 in
set_option maxHeartbeats 4000000 in
theorem visitAlt_calls (w0 w : World) (B : Nat) (p q r : Option Addr) (x y z : Option S49) (hp : Alt? w p x) (hq : Alt? w q y) (hr : Alt? w r z) (g : Nat) (v : Value) (xs : List S49) (ok : Nat → Prop)
    (hG : w.heap[g]? = some (.cells #[v] 37 (0, 0))) (HR : Kd.R k49 49 w B ok v xs) (HB : Below B w0 w) (hBw : B ≤ w.heap.size) (hBg : B ≤ g) (hlen : (xs.length + 1) * 48 ≤ 140737488355328) :
    Calls Try.prog 55 #[.agg #[.pointer p, .pointer q, .pointer r], .pointer (some ⟨g, 0, none⟩)] w fun e w' => e = .returned (.tuple #[]) ∧ ∃ v' : Value, w'.heap[g]? = some (.cells #[v'] 37 (0, 0)) ∧ Kd.R k49 49 w' B (fun k => ok k ∨ w.heap.size ≤ k) v' (xs ++ keptAlt x y z) ∧ Below B w0 w' ∧ Kept w w' (fun k => k = g ∨ some k = v.ownBlock) := by
  obtain ⟨Ag, cg, rfl⟩ := Kd.R_slice HR
  go_enter Try.func55, Try.ntmps55
  go_wp2
  go_region_held3 (fun w' => w'.cell? ⟨w.heap.size, 0, none⟩ = some (.pointer p) ∧ w'.cell? ⟨w.heap.size, 1, none⟩ = some (.pointer q) ∧ w'.cell? ⟨w.heap.size, 2, none⟩ = some (.pointer r)) (go_keep) (fail)
  rcases hp with ⟨rfl, rfl⟩ | ⟨a1, e1, rfl, rfl, f1⟩ <;> rcases hq with ⟨rfl, rfl⟩ | ⟨a2, e2, rfl, rfl, f2⟩ <;> rcases hr with ⟨rfl, rfl⟩ | ⟨a3, e3, rfl, rfl, f3⟩
  · go_wp2
    go_end0
    have hb1 : Below w.heap.size w (w.alloc (.cells #[.pointer none, .pointer none, .pointer none] 80)).drew := by repeat (first | exact Below.refl _ _ | apply below_alloc | apply below_drew)
    exact ⟨rfl, _, blk_below hG hb1, by rw [show keptAlt none none none = [] from rfl, List.append_nil]; exact Kd.R_mono (Kd.R_below HR hb1) (fun _ hk => .inl hk), HB.trans (hb1.mono hBw), Kept.of_below hb1 _⟩
  · go_wp2
    have hb1 : Below w.heap.size w (w.alloc (.cells #[.pointer none, .pointer none, .pointer (some a3)] 80)).drew.drew := by repeat (first | exact Below.refl _ _ | apply below_alloc | apply below_drew)
    have hsz := hb1.size
    have hgz := blk_below hG hb1
    have hFz := five_below f3 hb1
    have HRz := Kd.R_below HR hb1
    have HBz := HB.trans (hb1.mono hBw)
    have hBz := Nat.le_trans hBw hsz
    refine start_ (n := 7) (S := fun w' => w'.cell? ⟨g, 0, none⟩ = some (.slice Ag xs.length cg) ∧ w'.cell? a3 = some (.int .i64 e3.f0) ∧ w'.cell? ⟨a3.block, a3.off + 1, none⟩ = some (.int .i64 e3.f1.f0) ∧ w'.cell? ⟨a3.block, a3.off + 2, none⟩ = some (.bool e3.f1.f1) ∧ w'.cell? ⟨a3.block, a3.off + 3, none⟩ = some (.string e3.f1.f2) ∧ w'.cell? ⟨a3.block, a3.off + 4, none⟩ = some (.int .i64 e3.f1.f3)) (ds := [5, 6]) #[false, false, false, false, false, false, false] (by kernel_rfl) rfl rfl ⟨(blk_cell hgz 0).trans rfl, hFz.1, hFz.2.1, hFz.2.2.1, hFz.2.2.2.1, hFz.2.2.2.2⟩ (fun hHeld => ?_)
    generalize (w.alloc (.cells #[.pointer none, .pointer none, .pointer (some a3)] 80)).drew.drew = wz at hb1 hgz hFz HRz HBz hBz hsz hHeld ⊢
    have hgl := blk_lt hG
    refine pure_ (i := 1) (N := some 37) (v := ?_) (a' := ?_) #[false, true, false, false, false, false, false] rfl rfl (by kernel_rfl) (fun _ _ _ h => h) (Or.inl ⟨by rfl, ?_⟩) ?_ ?_
    rotate_left
    · intro w'
      go_simp
      with_reducible rfl
    rotate_left
    · simp only [Act.put, List.setIfInBounds_toArray, List.set_cons_zero, List.set_cons_succ, i64_w, i32_w]
      rfl
    refine pure_ (i := 2) (N := some 38) (v := ?_) (a' := ?_) #[false, true, true, false, false, false, false] rfl rfl (by kernel_rfl) (fun _ _ _ h => h) (Or.inl ⟨by rfl, ?_⟩) ?_ ?_
    rotate_left
    · intro w'
      go_simp
      with_reducible rfl
    rotate_left
    · simp only [Act.put, List.setIfInBounds_toArray, List.set_cons_zero, List.set_cons_succ, i64_w, i32_w]
      rfl
    refine take_ (i := 0) (N := some 36) (v := ?_) (a' := ?_) #[true, true, true, false, false, false, false] rfl rfl (by kernel_rfl) (fun _ _ _ h => h) (Or.inl ⟨by rfl, ?_⟩) hHeld ?_ ?_
    rotate_left
    · rintro w' ⟨s0, s1, s2, s3, s4, s5⟩
      go_simp
      with_reducible rfl
    rotate_left
    · simp only [Act.put, List.setIfInBounds_toArray, List.set_cons_zero, List.set_cons_succ, i64_w, i32_w]
      rfl
    refine take_ (i := 3) (N := some 39) (v := ?_) (a' := ?_) #[true, true, true, true, false, false, false] rfl rfl (by kernel_rfl) (fun _ _ _ h => h) (Or.inl ⟨by rfl, ?_⟩) hHeld ?_ ?_
    rotate_left
    · rintro w' ⟨s0, s1, s2, s3, s4, s5⟩
      go_simp
      with_reducible rfl
    rotate_left
    · simp only [Act.put, List.setIfInBounds_toArray, List.set_cons_zero, List.set_cons_succ, i64_w, i32_w]
      rfl
    refine one_ (i := 4) (N := some 40) #[true, true, true, true, true, false, false] rfl rfl (by kernel_rfl) (by decide) (fun K hK => ?_)
    refine value_ (w1 := wz.alloc (.cells #[.int .i64 e3.f0, .int .i64 e3.f1.f0, .bool e3.f1.f1, .string e3.f1.f2, .int .i64 e3.f1.f3] 49 (0, 0))) (v := .slice (some ⟨wz.heap.size, 0, none⟩) 1 1) (by rfl) rfl ?_ ?_
    · go_simp
    refine hK.out _ _ ⟨cell_alloc_some hHeld.1, cell_alloc_some hHeld.2.1, cell_alloc_some hHeld.2.2.1, cell_alloc_some hHeld.2.2.2.1, cell_alloc_some hHeld.2.2.2.2.1, cell_alloc_some hHeld.2.2.2.2.2⟩ (fun hHeld => ?_)
    clear hK K
    refine norm_ (a' := ?_) ?_ ?_
    rotate_left
    · show Act.put _ (some 40) _ = _
      simp only [Act.put, List.setIfInBounds_toArray, List.set_cons_zero, List.set_cons_succ, i64_w, i32_w]
      rfl
    refine last_ (i := 5) (N := some 41) #[true, true, true, true, true, true, false] rfl rfl (by kernel_rfl) (by decide) (fun K hK => ?_)
    refine Kd.R_append_step k49 (w0 := w0) B (by rfl) (.tmp 36) (.tmp 40) 37 49 (.agg #[(.int .i64 0), (.int .i64 0), (.bool false), (.string ⟨#[]⟩), (.int .i64 0)]) 48 (by rfl) Try.underlying37 info49 rfl (by decide) (by omega) (.slice Ag xs.length cg) xs e3 [.int .i64 e3.f0, .int .i64 e3.f1.f0, .bool e3.f1.f1, .string e3.f1.f2, .int .i64 e3.f1.f3] (fun k => ok k ∨ w.heap.size ≤ k) (fun _ => False) (by rfl) (by rfl) (k49_mkM _ _ _ _) (fun _ hk => hk.elim) (fun k hk => .inr (Nat.le_trans hsz hk)) (Kd.R_mono HRz (fun _ hk => .inl hk)) HBz hBz hlen ?_
    intro v1 w1 ho hb hg hat
    obtain ⟨Ag1, cg1, rfl⟩ := Kd.R_slice ho
    rw [List.length_append, List.length_singleton] at ho
    have hg1 := blk_grown hgz hg (Kd.R_ne HRz hgz (by decide))
    have hc1 : w1.cell? ⟨g, 0, none⟩ = some (.slice Ag xs.length cg) := (blk_cell hg1 0).trans rfl
    have hf1 := blk_frozen hg1 0
    refine hK.out _ _ ?_
    clear hK K
    refine norm_ (a' := ?_) ?_ ?_
    rotate_left
    · show Act.put _ (some 41) _ = _
      simp only [Act.put, List.setIfInBounds_toArray, List.set_cons_zero, List.set_cons_succ, i64_w, i32_w]
      rfl
    refine last_ (i := 6) (N := none) #[true, true, true, true, true, true, true] rfl rfl (by kernel_rfl) (by decide) (fun K hK => ?_)
    refine skip_ (w1 := ?_) (by rfl) rfl ?_ ?_
    rotate_left
    · go_simp
      rfl
    refine hK.out _ _ ?_
    clear hK K
    refine done_ (by kernel_rfl) ?_
    go_wp2
    go_end0
    exact ⟨rfl, visit_done hb1 hgz hgl hBg HRz ho hb hg⟩
  · go_wp2
    have hb1 : Below w.heap.size w (w.alloc (.cells #[.pointer none, .pointer (some a2), .pointer none] 80)).drew.drew := by repeat (first | exact Below.refl _ _ | apply below_alloc | apply below_drew)
    have hsz := hb1.size
    have hgz := blk_below hG hb1
    have hFz := five_below f2 hb1
    have HRz := Kd.R_below HR hb1
    have HBz := HB.trans (hb1.mono hBw)
    have hBz := Nat.le_trans hBw hsz
    refine start_ (n := 7) (S := fun w' => w'.cell? ⟨g, 0, none⟩ = some (.slice Ag xs.length cg) ∧ w'.cell? a2 = some (.int .i64 e2.f0) ∧ w'.cell? ⟨a2.block, a2.off + 1, none⟩ = some (.int .i64 e2.f1.f0) ∧ w'.cell? ⟨a2.block, a2.off + 2, none⟩ = some (.bool e2.f1.f1) ∧ w'.cell? ⟨a2.block, a2.off + 3, none⟩ = some (.string e2.f1.f2) ∧ w'.cell? ⟨a2.block, a2.off + 4, none⟩ = some (.int .i64 e2.f1.f3)) (ds := [5, 6]) #[false, false, false, false, false, false, false] (by kernel_rfl) rfl rfl ⟨(blk_cell hgz 0).trans rfl, hFz.1, hFz.2.1, hFz.2.2.1, hFz.2.2.2.1, hFz.2.2.2.2⟩ (fun hHeld => ?_)
    generalize (w.alloc (.cells #[.pointer none, .pointer (some a2), .pointer none] 80)).drew.drew = wz at hb1 hgz hFz HRz HBz hBz hsz hHeld ⊢
    have hgl := blk_lt hG
    refine pure_ (i := 1) (N := some 24) (v := ?_) (a' := ?_) #[false, true, false, false, false, false, false] rfl rfl (by kernel_rfl) (fun _ _ _ h => h) (Or.inl ⟨by rfl, ?_⟩) ?_ ?_
    rotate_left
    · intro w'
      go_simp
      with_reducible rfl
    rotate_left
    · simp only [Act.put, List.setIfInBounds_toArray, List.set_cons_zero, List.set_cons_succ, i64_w, i32_w]
      rfl
    refine pure_ (i := 2) (N := some 25) (v := ?_) (a' := ?_) #[false, true, true, false, false, false, false] rfl rfl (by kernel_rfl) (fun _ _ _ h => h) (Or.inl ⟨by rfl, ?_⟩) ?_ ?_
    rotate_left
    · intro w'
      go_simp
      with_reducible rfl
    rotate_left
    · simp only [Act.put, List.setIfInBounds_toArray, List.set_cons_zero, List.set_cons_succ, i64_w, i32_w]
      rfl
    refine take_ (i := 0) (N := some 23) (v := ?_) (a' := ?_) #[true, true, true, false, false, false, false] rfl rfl (by kernel_rfl) (fun _ _ _ h => h) (Or.inl ⟨by rfl, ?_⟩) hHeld ?_ ?_
    rotate_left
    · rintro w' ⟨s0, s1, s2, s3, s4, s5⟩
      go_simp
      with_reducible rfl
    rotate_left
    · simp only [Act.put, List.setIfInBounds_toArray, List.set_cons_zero, List.set_cons_succ, i64_w, i32_w]
      rfl
    refine take_ (i := 3) (N := some 26) (v := ?_) (a' := ?_) #[true, true, true, true, false, false, false] rfl rfl (by kernel_rfl) (fun _ _ _ h => h) (Or.inl ⟨by rfl, ?_⟩) hHeld ?_ ?_
    rotate_left
    · rintro w' ⟨s0, s1, s2, s3, s4, s5⟩
      go_simp
      with_reducible rfl
    rotate_left
    · simp only [Act.put, List.setIfInBounds_toArray, List.set_cons_zero, List.set_cons_succ, i64_w, i32_w]
      rfl
    refine one_ (i := 4) (N := some 27) #[true, true, true, true, true, false, false] rfl rfl (by kernel_rfl) (by decide) (fun K hK => ?_)
    refine value_ (w1 := wz.alloc (.cells #[.int .i64 e2.f0, .int .i64 e2.f1.f0, .bool e2.f1.f1, .string e2.f1.f2, .int .i64 e2.f1.f3] 49 (0, 0))) (v := .slice (some ⟨wz.heap.size, 0, none⟩) 1 1) (by rfl) rfl ?_ ?_
    · go_simp
    refine hK.out _ _ ⟨cell_alloc_some hHeld.1, cell_alloc_some hHeld.2.1, cell_alloc_some hHeld.2.2.1, cell_alloc_some hHeld.2.2.2.1, cell_alloc_some hHeld.2.2.2.2.1, cell_alloc_some hHeld.2.2.2.2.2⟩ (fun hHeld => ?_)
    clear hK K
    refine norm_ (a' := ?_) ?_ ?_
    rotate_left
    · show Act.put _ (some 27) _ = _
      simp only [Act.put, List.setIfInBounds_toArray, List.set_cons_zero, List.set_cons_succ, i64_w, i32_w]
      rfl
    refine last_ (i := 5) (N := some 28) #[true, true, true, true, true, true, false] rfl rfl (by kernel_rfl) (by decide) (fun K hK => ?_)
    refine Kd.R_append_step k49 (w0 := w0) B (by rfl) (.tmp 23) (.tmp 27) 37 49 (.agg #[(.int .i64 0), (.int .i64 0), (.bool false), (.string ⟨#[]⟩), (.int .i64 0)]) 48 (by rfl) Try.underlying37 info49 rfl (by decide) (by omega) (.slice Ag xs.length cg) xs e2 [.int .i64 e2.f0, .int .i64 e2.f1.f0, .bool e2.f1.f1, .string e2.f1.f2, .int .i64 e2.f1.f3] (fun k => ok k ∨ w.heap.size ≤ k) (fun _ => False) (by rfl) (by rfl) (k49_mkM _ _ _ _) (fun _ hk => hk.elim) (fun k hk => .inr (Nat.le_trans hsz hk)) (Kd.R_mono HRz (fun _ hk => .inl hk)) HBz hBz hlen ?_
    intro v1 w1 ho hb hg hat
    obtain ⟨Ag1, cg1, rfl⟩ := Kd.R_slice ho
    rw [List.length_append, List.length_singleton] at ho
    have hg1 := blk_grown hgz hg (Kd.R_ne HRz hgz (by decide))
    have hc1 : w1.cell? ⟨g, 0, none⟩ = some (.slice Ag xs.length cg) := (blk_cell hg1 0).trans rfl
    have hf1 := blk_frozen hg1 0
    refine hK.out _ _ ?_
    clear hK K
    refine norm_ (a' := ?_) ?_ ?_
    rotate_left
    · show Act.put _ (some 28) _ = _
      simp only [Act.put, List.setIfInBounds_toArray, List.set_cons_zero, List.set_cons_succ, i64_w, i32_w]
      rfl
    refine last_ (i := 6) (N := none) #[true, true, true, true, true, true, true] rfl rfl (by kernel_rfl) (by decide) (fun K hK => ?_)
    refine skip_ (w1 := ?_) (by rfl) rfl ?_ ?_
    rotate_left
    · go_simp
      rfl
    refine hK.out _ _ ?_
    clear hK K
    refine done_ (by kernel_rfl) ?_
    go_wp2
    go_end0
    exact ⟨rfl, visit_done hb1 hgz hgl hBg HRz ho hb hg⟩
  · go_wp2
    have hb1 : Below w.heap.size w (w.alloc (.cells #[.pointer none, .pointer (some a2), .pointer (some a3)] 80)).drew.drew := by repeat (first | exact Below.refl _ _ | apply below_alloc | apply below_drew)
    have hsz := hb1.size
    have hgz := blk_below hG hb1
    have hFz := five_below f2 hb1
    have HRz := Kd.R_below HR hb1
    have HBz := HB.trans (hb1.mono hBw)
    have hBz := Nat.le_trans hBw hsz
    refine start_ (n := 7) (S := fun w' => w'.cell? ⟨g, 0, none⟩ = some (.slice Ag xs.length cg) ∧ w'.cell? a2 = some (.int .i64 e2.f0) ∧ w'.cell? ⟨a2.block, a2.off + 1, none⟩ = some (.int .i64 e2.f1.f0) ∧ w'.cell? ⟨a2.block, a2.off + 2, none⟩ = some (.bool e2.f1.f1) ∧ w'.cell? ⟨a2.block, a2.off + 3, none⟩ = some (.string e2.f1.f2) ∧ w'.cell? ⟨a2.block, a2.off + 4, none⟩ = some (.int .i64 e2.f1.f3)) (ds := [5, 6]) #[false, false, false, false, false, false, false] (by kernel_rfl) rfl rfl ⟨(blk_cell hgz 0).trans rfl, hFz.1, hFz.2.1, hFz.2.2.1, hFz.2.2.2.1, hFz.2.2.2.2⟩ (fun hHeld => ?_)
    generalize (w.alloc (.cells #[.pointer none, .pointer (some a2), .pointer (some a3)] 80)).drew.drew = wz at hb1 hgz hFz HRz HBz hBz hsz hHeld ⊢
    have hgl := blk_lt hG
    refine pure_ (i := 1) (N := some 24) (v := ?_) (a' := ?_) #[false, true, false, false, false, false, false] rfl rfl (by kernel_rfl) (fun _ _ _ h => h) (Or.inl ⟨by rfl, ?_⟩) ?_ ?_
    rotate_left
    · intro w'
      go_simp
      with_reducible rfl
    rotate_left
    · simp only [Act.put, List.setIfInBounds_toArray, List.set_cons_zero, List.set_cons_succ, i64_w, i32_w]
      rfl
    refine pure_ (i := 2) (N := some 25) (v := ?_) (a' := ?_) #[false, true, true, false, false, false, false] rfl rfl (by kernel_rfl) (fun _ _ _ h => h) (Or.inl ⟨by rfl, ?_⟩) ?_ ?_
    rotate_left
    · intro w'
      go_simp
      with_reducible rfl
    rotate_left
    · simp only [Act.put, List.setIfInBounds_toArray, List.set_cons_zero, List.set_cons_succ, i64_w, i32_w]
      rfl
    refine take_ (i := 0) (N := some 23) (v := ?_) (a' := ?_) #[true, true, true, false, false, false, false] rfl rfl (by kernel_rfl) (fun _ _ _ h => h) (Or.inl ⟨by rfl, ?_⟩) hHeld ?_ ?_
    rotate_left
    · rintro w' ⟨s0, s1, s2, s3, s4, s5⟩
      go_simp
      with_reducible rfl
    rotate_left
    · simp only [Act.put, List.setIfInBounds_toArray, List.set_cons_zero, List.set_cons_succ, i64_w, i32_w]
      rfl
    refine take_ (i := 3) (N := some 26) (v := ?_) (a' := ?_) #[true, true, true, true, false, false, false] rfl rfl (by kernel_rfl) (fun _ _ _ h => h) (Or.inl ⟨by rfl, ?_⟩) hHeld ?_ ?_
    rotate_left
    · rintro w' ⟨s0, s1, s2, s3, s4, s5⟩
      go_simp
      with_reducible rfl
    rotate_left
    · simp only [Act.put, List.setIfInBounds_toArray, List.set_cons_zero, List.set_cons_succ, i64_w, i32_w]
      rfl
    refine one_ (i := 4) (N := some 27) #[true, true, true, true, true, false, false] rfl rfl (by kernel_rfl) (by decide) (fun K hK => ?_)
    refine value_ (w1 := wz.alloc (.cells #[.int .i64 e2.f0, .int .i64 e2.f1.f0, .bool e2.f1.f1, .string e2.f1.f2, .int .i64 e2.f1.f3] 49 (0, 0))) (v := .slice (some ⟨wz.heap.size, 0, none⟩) 1 1) (by rfl) rfl ?_ ?_
    · go_simp
    refine hK.out _ _ ⟨cell_alloc_some hHeld.1, cell_alloc_some hHeld.2.1, cell_alloc_some hHeld.2.2.1, cell_alloc_some hHeld.2.2.2.1, cell_alloc_some hHeld.2.2.2.2.1, cell_alloc_some hHeld.2.2.2.2.2⟩ (fun hHeld => ?_)
    clear hK K
    refine norm_ (a' := ?_) ?_ ?_
    rotate_left
    · show Act.put _ (some 27) _ = _
      simp only [Act.put, List.setIfInBounds_toArray, List.set_cons_zero, List.set_cons_succ, i64_w, i32_w]
      rfl
    refine last_ (i := 5) (N := some 28) #[true, true, true, true, true, true, false] rfl rfl (by kernel_rfl) (by decide) (fun K hK => ?_)
    refine Kd.R_append_step k49 (w0 := w0) B (by rfl) (.tmp 23) (.tmp 27) 37 49 (.agg #[(.int .i64 0), (.int .i64 0), (.bool false), (.string ⟨#[]⟩), (.int .i64 0)]) 48 (by rfl) Try.underlying37 info49 rfl (by decide) (by omega) (.slice Ag xs.length cg) xs e2 [.int .i64 e2.f0, .int .i64 e2.f1.f0, .bool e2.f1.f1, .string e2.f1.f2, .int .i64 e2.f1.f3] (fun k => ok k ∨ w.heap.size ≤ k) (fun _ => False) (by rfl) (by rfl) (k49_mkM _ _ _ _) (fun _ hk => hk.elim) (fun k hk => .inr (Nat.le_trans hsz hk)) (Kd.R_mono HRz (fun _ hk => .inl hk)) HBz hBz hlen ?_
    intro v1 w1 ho hb hg hat
    obtain ⟨Ag1, cg1, rfl⟩ := Kd.R_slice ho
    rw [List.length_append, List.length_singleton] at ho
    have hg1 := blk_grown hgz hg (Kd.R_ne HRz hgz (by decide))
    have hc1 : w1.cell? ⟨g, 0, none⟩ = some (.slice Ag xs.length cg) := (blk_cell hg1 0).trans rfl
    have hf1 := blk_frozen hg1 0
    refine hK.out _ _ ?_
    clear hK K
    refine norm_ (a' := ?_) ?_ ?_
    rotate_left
    · show Act.put _ (some 28) _ = _
      simp only [Act.put, List.setIfInBounds_toArray, List.set_cons_zero, List.set_cons_succ, i64_w, i32_w]
      rfl
    refine last_ (i := 6) (N := none) #[true, true, true, true, true, true, true] rfl rfl (by kernel_rfl) (by decide) (fun K hK => ?_)
    refine skip_ (w1 := ?_) (by rfl) rfl ?_ ?_
    rotate_left
    · go_simp
      rfl
    refine hK.out _ _ ?_
    clear hK K
    refine done_ (by kernel_rfl) ?_
    go_wp2
    go_end0
    exact ⟨rfl, visit_done hb1 hgz hgl hBg HRz ho hb hg⟩
  · go_wp2
    go_end0
    have hb1 : Below w.heap.size w (w.alloc (.cells #[.pointer (some a1), .pointer none, .pointer none] 80)).drew := by repeat (first | exact Below.refl _ _ | apply below_alloc | apply below_drew)
    exact ⟨rfl, _, blk_below hG hb1, by rw [show keptAlt (some e1) none none = [] from rfl, List.append_nil]; exact Kd.R_mono (Kd.R_below HR hb1) (fun _ hk => .inl hk), HB.trans (hb1.mono hBw), Kept.of_below hb1 _⟩
  · go_wp2
    go_end0
    have hb1 : Below w.heap.size w (w.alloc (.cells #[.pointer (some a1), .pointer none, .pointer (some a3)] 80)).drew := by repeat (first | exact Below.refl _ _ | apply below_alloc | apply below_drew)
    exact ⟨rfl, _, blk_below hG hb1, by rw [show keptAlt (some e1) none (some e3) = [] from rfl, List.append_nil]; exact Kd.R_mono (Kd.R_below HR hb1) (fun _ hk => .inl hk), HB.trans (hb1.mono hBw), Kept.of_below hb1 _⟩
  · go_wp2
    go_end0
    have hb1 : Below w.heap.size w (w.alloc (.cells #[.pointer (some a1), .pointer (some a2), .pointer none] 80)).drew := by repeat (first | exact Below.refl _ _ | apply below_alloc | apply below_drew)
    exact ⟨rfl, _, blk_below hG hb1, by rw [show keptAlt (some e1) (some e2) none = [] from rfl, List.append_nil]; exact Kd.R_mono (Kd.R_below HR hb1) (fun _ hk => .inl hk), HB.trans (hb1.mono hBw), Kept.of_below hb1 _⟩
  · go_wp2
    have hb1 : Below w.heap.size w (w.alloc (.cells #[.pointer (some a1), .pointer (some a2), .pointer (some a3)] 80)).drew.drew := by repeat (first | exact Below.refl _ _ | apply below_alloc | apply below_drew)
    have hsz := hb1.size
    have hgz := blk_below hG hb1
    have hFz := five_below f2 hb1
    have HRz := Kd.R_below HR hb1
    have HBz := HB.trans (hb1.mono hBw)
    have hBz := Nat.le_trans hBw hsz
    refine start_ (n := 7) (S := fun w' => w'.cell? ⟨g, 0, none⟩ = some (.slice Ag xs.length cg) ∧ w'.cell? a2 = some (.int .i64 e2.f0) ∧ w'.cell? ⟨a2.block, a2.off + 1, none⟩ = some (.int .i64 e2.f1.f0) ∧ w'.cell? ⟨a2.block, a2.off + 2, none⟩ = some (.bool e2.f1.f1) ∧ w'.cell? ⟨a2.block, a2.off + 3, none⟩ = some (.string e2.f1.f2) ∧ w'.cell? ⟨a2.block, a2.off + 4, none⟩ = some (.int .i64 e2.f1.f3)) (ds := [5, 6]) #[false, false, false, false, false, false, false] (by kernel_rfl) rfl rfl ⟨(blk_cell hgz 0).trans rfl, hFz.1, hFz.2.1, hFz.2.2.1, hFz.2.2.2.1, hFz.2.2.2.2⟩ (fun hHeld => ?_)
    generalize (w.alloc (.cells #[.pointer (some a1), .pointer (some a2), .pointer (some a3)] 80)).drew.drew = wz at hb1 hgz hFz HRz HBz hBz hsz hHeld ⊢
    have hgl := blk_lt hG
    refine pure_ (i := 1) (N := some 24) (v := ?_) (a' := ?_) #[false, true, false, false, false, false, false] rfl rfl (by kernel_rfl) (fun _ _ _ h => h) (Or.inl ⟨by rfl, ?_⟩) ?_ ?_
    rotate_left
    · intro w'
      go_simp
      with_reducible rfl
    rotate_left
    · simp only [Act.put, List.setIfInBounds_toArray, List.set_cons_zero, List.set_cons_succ, i64_w, i32_w]
      rfl
    refine pure_ (i := 2) (N := some 25) (v := ?_) (a' := ?_) #[false, true, true, false, false, false, false] rfl rfl (by kernel_rfl) (fun _ _ _ h => h) (Or.inl ⟨by rfl, ?_⟩) ?_ ?_
    rotate_left
    · intro w'
      go_simp
      with_reducible rfl
    rotate_left
    · simp only [Act.put, List.setIfInBounds_toArray, List.set_cons_zero, List.set_cons_succ, i64_w, i32_w]
      rfl
    refine take_ (i := 0) (N := some 23) (v := ?_) (a' := ?_) #[true, true, true, false, false, false, false] rfl rfl (by kernel_rfl) (fun _ _ _ h => h) (Or.inl ⟨by rfl, ?_⟩) hHeld ?_ ?_
    rotate_left
    · rintro w' ⟨s0, s1, s2, s3, s4, s5⟩
      go_simp
      with_reducible rfl
    rotate_left
    · simp only [Act.put, List.setIfInBounds_toArray, List.set_cons_zero, List.set_cons_succ, i64_w, i32_w]
      rfl
    refine take_ (i := 3) (N := some 26) (v := ?_) (a' := ?_) #[true, true, true, true, false, false, false] rfl rfl (by kernel_rfl) (fun _ _ _ h => h) (Or.inl ⟨by rfl, ?_⟩) hHeld ?_ ?_
    rotate_left
    · rintro w' ⟨s0, s1, s2, s3, s4, s5⟩
      go_simp
      with_reducible rfl
    rotate_left
    · simp only [Act.put, List.setIfInBounds_toArray, List.set_cons_zero, List.set_cons_succ, i64_w, i32_w]
      rfl
    refine one_ (i := 4) (N := some 27) #[true, true, true, true, true, false, false] rfl rfl (by kernel_rfl) (by decide) (fun K hK => ?_)
    refine value_ (w1 := wz.alloc (.cells #[.int .i64 e2.f0, .int .i64 e2.f1.f0, .bool e2.f1.f1, .string e2.f1.f2, .int .i64 e2.f1.f3] 49 (0, 0))) (v := .slice (some ⟨wz.heap.size, 0, none⟩) 1 1) (by rfl) rfl ?_ ?_
    · go_simp
    refine hK.out _ _ ⟨cell_alloc_some hHeld.1, cell_alloc_some hHeld.2.1, cell_alloc_some hHeld.2.2.1, cell_alloc_some hHeld.2.2.2.1, cell_alloc_some hHeld.2.2.2.2.1, cell_alloc_some hHeld.2.2.2.2.2⟩ (fun hHeld => ?_)
    clear hK K
    refine norm_ (a' := ?_) ?_ ?_
    rotate_left
    · show Act.put _ (some 27) _ = _
      simp only [Act.put, List.setIfInBounds_toArray, List.set_cons_zero, List.set_cons_succ, i64_w, i32_w]
      rfl
    refine last_ (i := 5) (N := some 28) #[true, true, true, true, true, true, false] rfl rfl (by kernel_rfl) (by decide) (fun K hK => ?_)
    refine Kd.R_append_step k49 (w0 := w0) B (by rfl) (.tmp 23) (.tmp 27) 37 49 (.agg #[(.int .i64 0), (.int .i64 0), (.bool false), (.string ⟨#[]⟩), (.int .i64 0)]) 48 (by rfl) Try.underlying37 info49 rfl (by decide) (by omega) (.slice Ag xs.length cg) xs e2 [.int .i64 e2.f0, .int .i64 e2.f1.f0, .bool e2.f1.f1, .string e2.f1.f2, .int .i64 e2.f1.f3] (fun k => ok k ∨ w.heap.size ≤ k) (fun _ => False) (by rfl) (by rfl) (k49_mkM _ _ _ _) (fun _ hk => hk.elim) (fun k hk => .inr (Nat.le_trans hsz hk)) (Kd.R_mono HRz (fun _ hk => .inl hk)) HBz hBz hlen ?_
    intro v1 w1 ho hb hg hat
    obtain ⟨Ag1, cg1, rfl⟩ := Kd.R_slice ho
    rw [List.length_append, List.length_singleton] at ho
    have hg1 := blk_grown hgz hg (Kd.R_ne HRz hgz (by decide))
    have hc1 : w1.cell? ⟨g, 0, none⟩ = some (.slice Ag xs.length cg) := (blk_cell hg1 0).trans rfl
    have hf1 := blk_frozen hg1 0
    refine hK.out _ _ ?_
    clear hK K
    refine norm_ (a' := ?_) ?_ ?_
    rotate_left
    · show Act.put _ (some 28) _ = _
      simp only [Act.put, List.setIfInBounds_toArray, List.set_cons_zero, List.set_cons_succ, i64_w, i32_w]
      rfl
    refine last_ (i := 6) (N := none) #[true, true, true, true, true, true, true] rfl rfl (by kernel_rfl) (by decide) (fun K hK => ?_)
    refine skip_ (w1 := ?_) (by rfl) rfl ?_ ?_
    rotate_left
    · go_simp
      rfl
    refine hK.out _ _ ?_
    clear hK K
    refine done_ (by kernel_rfl) ?_
    go_wp2
    go_end0
    exact ⟨rfl, visit_done hb1 hgz hgl hBg HRz ho hb hg⟩
end Go.Proofs.Ytcecekmhikmkhaa.M
