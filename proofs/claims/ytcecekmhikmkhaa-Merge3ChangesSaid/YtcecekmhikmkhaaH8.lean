/- The closures of merge3.Changed (function 36) and merge3.Both (function 39): what they append to what they captured, for every row of slots that reads as data. -/
import Derived.Test.YtcecekmhikmkhaaH7
import Derived.Test.YtcecekmhikmkhaaMx3
namespace Go.Proofs.Ytcecekmhikmkhaa.M
open Go.RowKit Go.Proofs.YtcecekmhikmkhaaW.PrintWords Go.Proofs.YtcecekmhikmkhaaW.PrintLast Go.Proofs.YtcecekmhikmkhaaW.PrintMore
set_option linter.unusedVariables false
set_option linter.unusedSimpArgs false
/-- Have two lists of alternatives the same stamps? -/
def sameB (x y : List S49) : Bool := decide (x.map (·.f0) = y.map (·.f0))
theorem sameStamps_from (x y : List S49) (hl : x.length = y.length) (hn : x.length ≤ 1000000) : ∀ (d : Nat) (k i : Nat), i + d = x.length → d < k → merge3_sameStamps.l0 k x y (x.length : Int) (i : Int) = some (decide ((x.drop i).map (·.f0) = (y.drop i).map (·.f0))) := by
  intro d
  induction d with
  | zero =>
    intro k i hi hk
    obtain ⟨k, rfl⟩ : ∃ m, k = m + 1 := ⟨k - 1, by omega⟩
    simp only [merge3_sameStamps.l0]
    rw [if_neg (by omega), List.drop_of_length_le (by omega), List.drop_of_length_le (by omega)]
    simp
  | succ d ih =>
    intro k i hi hk
    obtain ⟨k, rfl⟩ : ∃ m, k = m + 1 := ⟨k - 1, by omega⟩
    have h1 : i < x.length := by omega
    have h2 : i < y.length := by omega
    have e1 : x.drop i = rd_T49 x (i : Int) :: x.drop (i + 1) := by
      rw [List.drop_eq_getElem_cons h1]
      simp [rd_T49, List.getD_eq_getElem?_getD, List.getElem?_eq_getElem h1]
    have e2 : y.drop i = rd_T49 y (i : Int) :: y.drop (i + 1) := by
      rw [List.drop_eq_getElem_cons h2]
      simp [rd_T49, List.getD_eq_getElem?_getD, List.getElem?_eq_getElem h2]
    simp only [merge3_sameStamps.l0]
    rw [if_pos (by omega), if_pos (by omega), if_pos (by omega), if_pos (by omega), e1, e2, List.map_cons, List.map_cons]
    by_cases e : (rd_T49 x (i : Int)).f0 = (rd_T49 y (i : Int)).f0
    · have hw : wrap64 ((i : Int) + 1) = ((i + 1 : Nat) : Int) := by unfold wrap64; omega
      rw [if_pos e, hw, ih k (i + 1) (by omega) (by omega)]
      simp [e]
    · rw [if_neg e]
      simp [e]
theorem sameStamps_is (x y : List S49) (hn : x.length ≤ 1000000) : merge3_sameStamps.f 1000002 x y = some (sameB x y) := by
  unfold merge3_sameStamps.f
  by_cases hl : x.length = y.length
  · rw [if_pos (by omega), show (0 : Int) = ((0 : Nat) : Int) from rfl, sameStamps_from x y hl hn x.length 1000002 0 (by omega) (by omega)]
    rfl
  · rw [if_neg (by omega)]
    unfold sameB
    rw [decide_eq_false (fun h => hl (by have := congrArg List.length h; simpa using this))]
def condC (r : Row S53) : Bool := !sameB (altsO r.1) (altsO r.2.1)
def condB (r : Row S53) : Bool := !sameB (altsO r.1) (altsO r.2.1) && !sameB (altsO r.1) (altsO r.2.2) && !sameB (altsO r.2.1) (altsO r.2.2)
def spotOf (r : Row S53) : S36 := ⟨(firstS r).f0, (firstS r).f1⟩
def keptC (r : Row S53) : List S36 := if condC r then [spotOf r] else []
def keptB (r : Row S53) : List S36 := if condB r then [spotOf r] else []
theorem spot_done {w w0 wz w1 : World} {B g : Nat} {v v1 : Value} {xs ys : List S36} {ok : Nat → Prop} (hb1 : Below w.heap.size w wz) (hgz : wz.heap[g]? = some (.cells #[v] 32 (0, 0))) (hgl : g < w.heap.size) (hBg : B ≤ g) (HRz : Kd.R k36 36 wz B ok v xs)
    (ho : Kd.R k36 36 w1 B (fun k => ok k ∨ w.heap.size ≤ k) v1 ys) (hb : Below B w0 w1) (hg : wz.grownBy w1 v.ownBlock) :
    ∃ v' : Value, (w1.setCell ⟨g, 0, none⟩ v1).heap[g]? = some (.cells #[v'] 32 (0, 0)) ∧ Kd.R k36 36 (w1.setCell ⟨g, 0, none⟩ v1) B (fun k => ok k ∨ w.heap.size ≤ k) v' ys ∧ Below B w0 (w1.setCell ⟨g, 0, none⟩ v1) ∧ Kept w (w1.setCell ⟨g, 0, none⟩ v1) (fun k => k = g ∨ some k = v.ownBlock) := by
  have hne : some g ≠ v.ownBlock := Kd.R_ne HRz hgz (by decide)
  have hg1 : w1.heap[g]? = some (.cells #[v] 32 (0, 0)) := blk_grown hgz hg hne
  refine ⟨v1, blk_put hg1 0 v1 rfl, Kd.R_set ho hg1 (by decide) 0 v1, hb.setCell hBg v1, ?_⟩
  refine Kept.setCell (Kept.of_grown hg (Kept.of_below hb1 _) (fun k hk => .inl (.inr hk.symm))) (.inl (.inl rfl)) v1
theorem bool_cases (b : Bool) : b = true ∨ b = false := by cases b <;> simp
set_option maxRecDepth 100000 in
set_option maxHeartbeats 8000000 in
theorem visitChanged_calls (w0 w : World) (B : Nat) (p q r : Option Addr) (x y z : Option S53) (hp : Slot? w p x) (hq : Slot? w q y) (hr : Slot? w r z) (g : Nat) (v : Value) (xs : List S36) (ok : Nat → Prop)
    (hG : w.heap[g]? = some (.cells #[v] 32 (0, 0))) (HR : Kd.R k36 36 w B ok v xs) (HB : Below B w0 w) (hBw : B ≤ w.heap.size) (hBg : B ≤ g) (hlen : (xs.length + 1) * 16 ≤ 140737488355328) (hx : (altsO x).length ≤ 1000000) (hy : (altsO y).length ≤ 1000000) (hz : (altsO z).length ≤ 1000000) :
    Calls Try.prog 36 #[.agg #[.pointer p, .pointer q, .pointer r], .pointer (some ⟨g, 0, none⟩)] w fun e w' => e = .returned (.tuple #[]) ∧ ∃ v' : Value, w'.heap[g]? = some (.cells #[v'] 32 (0, 0)) ∧ Kd.R k36 36 w' B (fun k => ok k ∨ w.heap.size ≤ k) v' (xs ++ keptC (x, y, z)) ∧ Below B w0 w' ∧ Kept w w' (fun k => k = g ∨ some k = v.ownBlock) := by
  obtain ⟨Ag, cg, rfl⟩ := Kd.R_slice HR
  obtain ⟨A1, c1, ha1, hc1, hr1⟩ := slot_alts hp
  obtain ⟨A2, c2, ha2, hc2, hr2⟩ := slot_alts hq
  obtain ⟨A3, c3, ha3, hc3, hr3⟩ := slot_alts hr
  have E1 := Aside0.mk ha1
  have E2 := Aside0.mk ha2
  have E3 := Aside0.mk ha3
  have C1 := Aside0.mk hr1
  have C2 := Aside0.mk hr2
  have C3 := Aside0.mk hr3
  have HP := Aside0.mk hp
  have HQ := Aside0.mk hq
  have HS := Aside0.mk hr
  have HR1 := Aside0.mk HR
  have HG := Aside0.mk hG
  have HBB := Aside0.mk HB
  clear ha1 ha2 ha3 hr1 hr2 hr3 hp hq hr HR hG HB
  go_enter Try.func36, Try.ntmps36
  go_wp2_with fail
  have hb0 : Below w.heap.size w (w.alloc (.cells #[.pointer p, .pointer q, .pointer r] 58)) := below_alloc (Below.refl _ _) _
  have hbox : (w.alloc (.cells #[.pointer p, .pointer q, .pointer r] 58)).heap[w.heap.size]? = some (.cells #[.pointer p, .pointer q, .pointer r] 58 (0, 0)) := blk_new _ _
  refine (alternatives_calls _ p q r A1 A2 A3 _ _ _ c1 c2 c3 (altsAt_below E1.out hb0) (altsAt_below E2.out hb0) (altsAt_below E3.out hb0)).mono ?_
  rintro e w1 ⟨rfl, hb1⟩
  have hB1 := Aside0.mk (below_step hb0 hb1)
  have HX := Aside0.mk (blk_below hbox hb1)
  clear hb0 hbox hb1
  go_wp2_with fail
  have hB2 := Aside0.mk (below_alloc hB1.out (.cells #[.slice A1 (altsO x).length c1, .slice A2 (altsO y).length c2, .slice A3 (altsO z).length c3] 59))
  have HX2 := Aside0.mk (blk_alloc HX.out (.cells #[.slice A1 (altsO x).length c1, .slice A2 (altsO y).length c2, .slice A3 (altsO z).length c3] 59))
  have HL2 := Aside0.mk (blk_new w1 (.cells #[.slice A1 (altsO x).length c1, .slice A2 (altsO y).length c2, .slice A3 (altsO z).length c3] 59))
  refine (merge3_sameStamps.calls 1000002 A1 c1 (altsO x) A2 c2 (altsO y) (sameB (altsO x) (altsO y)) _ (Kd.C_below C1.out hB2.out) hc1 (Kd.C_below C2.out hB2.out) hc2 (sameStamps_is _ _ hx)).mono ?_
  rintro e w3 ⟨rfl, hd3⟩
  have hB3 := Aside0.mk (below_step hB2.out hd3.below)
  have HX3 := Aside0.mk (blk_below HX2.out hd3.below)
  have HL3 := Aside0.mk (blk_below HL2.out hd3.below)
  clear hd3
  rcases bool_cases (sameB (altsO x) (altsO y)) with hs0 | hs0
  · rw [hs0]
    have hk0 : keptC (x, y, z) = [] := by unfold keptC condC; simp [hs0]
    have HK0 := Aside0.mk hk0
    clear hk0 hs0
    go_wp2_with fail
    go_end0
    rw [HK0.out, List.append_nil]
    exact ⟨rfl, _, blk_below HG.out hB3.out, Kd.R_mono (Kd.R_below HR1.out hB3.out) (fun _ hk => .inl hk), HBB.out.trans (hB3.out.mono hBw), Kept.of_below hB3.out _⟩
  · rw [hs0]
    have hk1 : keptC (x, y, z) = [spotOf (x, y, z)] := by unfold keptC condC; simp [hs0]
    have hne : (x, y, z) ≠ ((none, none, none) : Row S53) := fun h2 => by injection h2 with e1 e2; injection e2 with e2 e3; subst e1 e2 e3; simp [altsO, sameB] at hs0
    have HK1 := Aside0.mk hk1
    obtain ⟨a, hfa, hfi, hff⟩ := slot_first HP.out HQ.out HS.out hne
    rw [show [spotOf (x, y, z)] = [(⟨(firstS (x, y, z)).f0, (firstS (x, y, z)).f1⟩ : S36)] from rfl] at HK1
    obtain ⟨f0, hf0⟩ : ∃ n, n = (firstS (x, y, z)).f0 := ⟨_, rfl⟩
    obtain ⟨f1, hf1⟩ : ∃ n, n = (firstS (x, y, z)).f1 := ⟨_, rfl⟩
    rw [← hf0] at hfi HK1
    rw [← hf1] at hff HK1
    have HFI := Aside0.mk hfi
    have HFF := Aside0.mk hff
    clear hk1 hne hf0 hf1 hfi hff hs0
    go_wp2_with fail
    have hbz := hB3.out
    have hgz := blk_below HG.out hbz
    have hxz := HX3.out
    have hfi := HFI.out
    have hff := HFF.out
    have hgl := blk_lt HG.out
    refine start_ (n := 6) (S := fun w' => w'.cell? ⟨g, 0, none⟩ = some (.slice Ag xs.length cg) ∧ w'.cell? ⟨w.heap.size, 0, none⟩ = some (.pointer p) ∧ w'.cell? ⟨w.heap.size, 1, none⟩ = some (.pointer q) ∧ w'.cell? ⟨w.heap.size, 2, none⟩ = some (.pointer r)) (ds := [4, 5]) #[false, false, false, false, false, false] (by kernel_rfl) rfl rfl ⟨(blk_cell hgz 0).trans rfl, (blk_cell hxz 0).trans rfl, (blk_cell hxz 1).trans rfl, (blk_cell hxz 2).trans rfl⟩ (fun hHeld => ?_)
    refine take_ (i := 0) (N := some 12) (v := ?_) (a' := ?_) #[true, false, false, false, false, false] rfl rfl (by kernel_rfl) (fun _ _ _ h => h) (Or.inl ⟨by rfl, ?_⟩) hHeld ?_ ?_
    rotate_left
    · rintro w' ⟨s0, s1, s2, s3⟩
      go_simp
      with_reducible rfl
    rotate_left
    · simp only [Act.put, List.setIfInBounds_toArray, List.set_cons_zero, List.set_cons_succ, i64_w, i32_w]
      rfl
    refine take_ (i := 1) (N := some 13) (v := ?_) (a' := ?_) #[true, true, false, false, false, false] rfl rfl (by kernel_rfl) (fun _ _ _ h => h) (Or.inl ⟨by rfl, ?_⟩) hHeld ?_ ?_
    rotate_left
    · rintro w' ⟨s0, s1, s2, s3⟩
      go_simp
      with_reducible rfl
    rotate_left
    · simp only [Act.put, List.setIfInBounds_toArray, List.set_cons_zero, List.set_cons_succ, i64_w, i32_w]
      rfl
    refine one_ (i := 2) (N := some 14) #[true, true, true, false, false, false] rfl rfl (by kernel_rfl) (by decide) (fun K hK => ?_)
    refine goes_ Try.func33 (by kernel_rfl) rfl #[.agg #[.pointer p, .pointer q, .pointer r]] (by rfl) rfl rfl (by simp only [List.map_toArray, List.map_cons, List.map_nil]; rfl) ?_
    refine (register_calls _ p q r a f0 f1 hfa (pw_cell_below (below_drew hbz) hfi) (pw_cell_below (below_drew hbz) hff)).mono ?_
    rintro e w5 ⟨rfl, hb5⟩
    refine ⟨_, rfl, ?_⟩
    refine hK.out _ _ ⟨pw_cell_below hb5 (hHeld.1), pw_cell_below hb5 (hHeld.2.1), pw_cell_below hb5 (hHeld.2.2.1), pw_cell_below hb5 (hHeld.2.2.2)⟩ (fun hHeld => ?_)
    clear hK K
    refine norm_ (a' := ?_) ?_ ?_
    rotate_left
    · show Act.put _ (some 14) _ = _
      simp only [Act.put, List.setIfInBounds_toArray, List.set_cons_zero, List.set_cons_succ, i64_w, i32_w]
      rfl
    refine one_ (i := 3) (N := some 15) #[true, true, true, true, false, false] rfl rfl (by kernel_rfl) (by decide) (fun K hK => ?_)
    have hb5w := below_step (below_drew hbz) hb5
    refine value_ (w1 := ?_) (v := ?_) (by rfl) rfl ?_ ?_
    rotate_left 2
    · go_simp
      constructor
      · rfl
      · rfl
    refine hK.out _ _ ⟨pw_cell_below (below_alloc (Below.refl _ _) _) (hHeld.1), pw_cell_below (below_alloc (Below.refl _ _) _) (hHeld.2.1), pw_cell_below (below_alloc (Below.refl _ _) _) (hHeld.2.2.1), pw_cell_below (below_alloc (Below.refl _ _) _) (hHeld.2.2.2)⟩ (fun hHeld => ?_)
    clear hK K
    refine norm_ (a' := ?_) ?_ ?_
    rotate_left
    · show Act.put _ (some 15) _ = _
      simp only [Act.put, List.setIfInBounds_toArray, List.set_cons_zero, List.set_cons_succ, i64_w, i32_w]
      rfl
    refine last_ (i := 4) (N := some 16) #[true, true, true, true, true, false] rfl rfl (by kernel_rfl) (by decide) (fun K hK => ?_)
    refine Kd.R_append_step k36 (w0 := w0) B (by rfl) (.tmp 12) (.tmp 15) 32 36 (.agg #[(.int .i64 0), (.int .i64 0)]) 16 (by rfl) Try.underlying32 info36 rfl (by decide) (by omega) (.slice Ag xs.length cg) xs ⟨f0, f1⟩ [.int .i64 f0, .int .i64 f1] (fun k => ok k ∨ w.heap.size ≤ k) (fun _ => False) (by rfl) (by rfl) (k36_mkM _ _ _ ⟨f0, f1⟩) (fun _ hk => hk.elim) (fun k hk => .inr (Nat.le_trans hb5w.size hk)) (Kd.R_mono (Kd.R_below HR1.out hb5w) (fun _ hk => .inl hk)) (HBB.out.trans (hb5w.mono hBw)) (Nat.le_trans hBw hb5w.size) hlen ?_
    intro v1 w6 ho hb hg hat
    obtain ⟨Ag1, cg1, rfl⟩ := Kd.R_slice ho
    rw [List.length_append, List.length_singleton] at ho
    have hg5 := blk_below HG.out hb5w
    have hg6 := blk_grown hg5 hg (Kd.R_ne (Kd.R_below HR1.out hb5w) hg5 (by decide))
    have hc6 : w6.cell? ⟨g, 0, none⟩ = some (.slice Ag xs.length cg) := (blk_cell hg6 0).trans rfl
    have hf6 := blk_frozen hg6 0
    refine hK.out _ _ ?_
    clear hK K
    refine norm_ (a' := ?_) ?_ ?_
    rotate_left
    · show Act.put _ (some 16) _ = _
      simp only [Act.put, List.setIfInBounds_toArray, List.set_cons_zero, List.set_cons_succ, i64_w, i32_w]
      rfl
    refine last_ (i := 5) (N := none) #[true, true, true, true, true, true] rfl rfl (by kernel_rfl) (by decide) (fun K hK => ?_)
    refine skip_ (w1 := ?_) (by rfl) rfl ?_ ?_
    rotate_left
    · go_simp
      rfl
    refine hK.out _ _ ?_
    clear hK K
    refine done_ (by kernel_rfl) ?_
    go_wp2
    go_end0
    rw [HK1.out]
    exact ⟨rfl, spot_done hb5w hg5 hgl hBg (Kd.R_below HR1.out hb5w) ho hb hg⟩
set_option maxRecDepth 100000 in
set_option maxHeartbeats 8000000 in
theorem visitBoth_calls (w0 w : World) (B : Nat) (p q r : Option Addr) (x y z : Option S53) (hp : Slot? w p x) (hq : Slot? w q y) (hr : Slot? w r z) (g : Nat) (v : Value) (xs : List S36) (ok : Nat → Prop)
    (hG : w.heap[g]? = some (.cells #[v] 32 (0, 0))) (HR : Kd.R k36 36 w B ok v xs) (HB : Below B w0 w) (hBw : B ≤ w.heap.size) (hBg : B ≤ g) (hlen : (xs.length + 1) * 16 ≤ 140737488355328) (hx : (altsO x).length ≤ 1000000) (hy : (altsO y).length ≤ 1000000) (hz : (altsO z).length ≤ 1000000) :
    Calls Try.prog 39 #[.agg #[.pointer p, .pointer q, .pointer r], .pointer (some ⟨g, 0, none⟩)] w fun e w' => e = .returned (.tuple #[]) ∧ ∃ v' : Value, w'.heap[g]? = some (.cells #[v'] 32 (0, 0)) ∧ Kd.R k36 36 w' B (fun k => ok k ∨ w.heap.size ≤ k) v' (xs ++ keptB (x, y, z)) ∧ Below B w0 w' ∧ Kept w w' (fun k => k = g ∨ some k = v.ownBlock) := by
  obtain ⟨Ag, cg, rfl⟩ := Kd.R_slice HR
  obtain ⟨A1, c1, ha1, hc1, hr1⟩ := slot_alts hp
  obtain ⟨A2, c2, ha2, hc2, hr2⟩ := slot_alts hq
  obtain ⟨A3, c3, ha3, hc3, hr3⟩ := slot_alts hr
  have E1 := Aside0.mk ha1
  have E2 := Aside0.mk ha2
  have E3 := Aside0.mk ha3
  have C1 := Aside0.mk hr1
  have C2 := Aside0.mk hr2
  have C3 := Aside0.mk hr3
  have HP := Aside0.mk hp
  have HQ := Aside0.mk hq
  have HS := Aside0.mk hr
  have HR1 := Aside0.mk HR
  have HG := Aside0.mk hG
  have HBB := Aside0.mk HB
  clear ha1 ha2 ha3 hr1 hr2 hr3 hp hq hr HR hG HB
  go_enter Try.func39, Try.ntmps39
  go_wp2_with fail
  have hb0 : Below w.heap.size w (w.alloc (.cells #[.pointer p, .pointer q, .pointer r] 58)) := below_alloc (Below.refl _ _) _
  have hbox : (w.alloc (.cells #[.pointer p, .pointer q, .pointer r] 58)).heap[w.heap.size]? = some (.cells #[.pointer p, .pointer q, .pointer r] 58 (0, 0)) := blk_new _ _
  refine (alternatives_calls _ p q r A1 A2 A3 _ _ _ c1 c2 c3 (altsAt_below E1.out hb0) (altsAt_below E2.out hb0) (altsAt_below E3.out hb0)).mono ?_
  rintro e w1 ⟨rfl, hb1⟩
  have hB1 := Aside0.mk (below_step hb0 hb1)
  have HX := Aside0.mk (blk_below hbox hb1)
  clear hb0 hbox hb1
  go_wp2_with fail
  have hB2 := Aside0.mk (below_alloc hB1.out (.cells #[.slice A1 (altsO x).length c1, .slice A2 (altsO y).length c2, .slice A3 (altsO z).length c3] 59))
  have HX2 := Aside0.mk (blk_alloc HX.out (.cells #[.slice A1 (altsO x).length c1, .slice A2 (altsO y).length c2, .slice A3 (altsO z).length c3] 59))
  have HL2 := Aside0.mk (blk_new w1 (.cells #[.slice A1 (altsO x).length c1, .slice A2 (altsO y).length c2, .slice A3 (altsO z).length c3] 59))
  refine (merge3_sameStamps.calls 1000002 A1 c1 (altsO x) A2 c2 (altsO y) (sameB (altsO x) (altsO y)) _ (Kd.C_below C1.out hB2.out) hc1 (Kd.C_below C2.out hB2.out) hc2 (sameStamps_is _ _ hx)).mono ?_
  rintro e w3 ⟨rfl, hd3⟩
  have hB3 := Aside0.mk (below_step hB2.out hd3.below)
  have HX3 := Aside0.mk (blk_below HX2.out hd3.below)
  have HL3 := Aside0.mk (blk_below HL2.out hd3.below)
  clear hd3
  rcases bool_cases (sameB (altsO x) (altsO y)) with hs0 | hs0
  · rw [hs0]
    have hk0 : keptB (x, y, z) = [] := by unfold keptB condB; simp [hs0]
    have HK0 := Aside0.mk hk0
    clear hk0 hs0
    go_wp2_with fail
    go_end0
    rw [HK0.out, List.append_nil]
    exact ⟨rfl, _, blk_below HG.out hB3.out, Kd.R_mono (Kd.R_below HR1.out hB3.out) (fun _ hk => .inl hk), HBB.out.trans (hB3.out.mono hBw), Kept.of_below hB3.out _⟩
  · rw [hs0]
    have hl0 : w3.cell? ⟨w1.heap.size, 0, none⟩ = some (.slice A1 (altsO x).length c1) := (blk_cell HL3.out 0).trans rfl
    have hl1 : w3.cell? ⟨w1.heap.size, 1, none⟩ = some (.slice A2 (altsO y).length c2) := (blk_cell HL3.out 1).trans rfl
    have hl2 : w3.cell? ⟨w1.heap.size, 2, none⟩ = some (.slice A3 (altsO z).length c3) := (blk_cell HL3.out 2).trans rfl
    go_wp2_with fail
    clear hl0 hl1 hl2
    refine (merge3_sameStamps.calls 1000002 A1 c1 (altsO x) A3 c3 (altsO z) (sameB (altsO x) (altsO z)) _ (Kd.C_below C1.out hB3.out) hc1 (Kd.C_below C3.out hB3.out) hc3 (sameStamps_is _ _ hx)).mono ?_
    rintro e w4 ⟨rfl, hd4⟩
    have hB4 := Aside0.mk (below_step hB3.out hd4.below)
    have HX4 := Aside0.mk (blk_below HX3.out hd4.below)
    have HL4 := Aside0.mk (blk_below HL3.out hd4.below)
    clear hd4
    rcases bool_cases (sameB (altsO x) (altsO z)) with hs1 | hs1
    · rw [hs1]
      have hk0 : keptB (x, y, z) = [] := by unfold keptB condB; simp [hs0, hs1]
      have HK0 := Aside0.mk hk0
      clear hk0 hs0 hs1
      go_wp2_with fail
      go_end0
      rw [HK0.out, List.append_nil]
      exact ⟨rfl, _, blk_below HG.out hB4.out, Kd.R_mono (Kd.R_below HR1.out hB4.out) (fun _ hk => .inl hk), HBB.out.trans (hB4.out.mono hBw), Kept.of_below hB4.out _⟩
    · rw [hs1]
      have hl0 : w4.cell? ⟨w1.heap.size, 0, none⟩ = some (.slice A1 (altsO x).length c1) := (blk_cell HL4.out 0).trans rfl
      have hl1 : w4.cell? ⟨w1.heap.size, 1, none⟩ = some (.slice A2 (altsO y).length c2) := (blk_cell HL4.out 1).trans rfl
      have hl2 : w4.cell? ⟨w1.heap.size, 2, none⟩ = some (.slice A3 (altsO z).length c3) := (blk_cell HL4.out 2).trans rfl
      go_wp2_with fail
      clear hl0 hl1 hl2
      refine (merge3_sameStamps.calls 1000002 A2 c2 (altsO y) A3 c3 (altsO z) (sameB (altsO y) (altsO z)) _ (Kd.C_below C2.out hB4.out) hc2 (Kd.C_below C3.out hB4.out) hc3 (sameStamps_is _ _ hy)).mono ?_
      rintro e w5 ⟨rfl, hd5⟩
      have hB5 := Aside0.mk (below_step hB4.out hd5.below)
      have HX5 := Aside0.mk (blk_below HX4.out hd5.below)
      have HL5 := Aside0.mk (blk_below HL4.out hd5.below)
      clear hd5
      rcases bool_cases (sameB (altsO y) (altsO z)) with hs2 | hs2
      · rw [hs2]
        have hk0 : keptB (x, y, z) = [] := by unfold keptB condB; simp [hs0, hs1, hs2]
        have HK0 := Aside0.mk hk0
        clear hk0 hs0 hs1 hs2
        go_wp2_with fail
        go_end0
        rw [HK0.out, List.append_nil]
        exact ⟨rfl, _, blk_below HG.out hB5.out, Kd.R_mono (Kd.R_below HR1.out hB5.out) (fun _ hk => .inl hk), HBB.out.trans (hB5.out.mono hBw), Kept.of_below hB5.out _⟩
      · rw [hs2]
        have hk1 : keptB (x, y, z) = [spotOf (x, y, z)] := by unfold keptB condB; simp [hs0, hs1, hs2]
        have hne : (x, y, z) ≠ ((none, none, none) : Row S53) := fun h2 => by injection h2 with e1 e2; injection e2 with e2 e3; subst e1 e2 e3; simp [altsO, sameB] at hs0
        have HK1 := Aside0.mk hk1
        obtain ⟨a, hfa, hfi, hff⟩ := slot_first HP.out HQ.out HS.out hne
        rw [show [spotOf (x, y, z)] = [(⟨(firstS (x, y, z)).f0, (firstS (x, y, z)).f1⟩ : S36)] from rfl] at HK1
        obtain ⟨f0, hf0⟩ : ∃ n, n = (firstS (x, y, z)).f0 := ⟨_, rfl⟩
        obtain ⟨f1, hf1⟩ : ∃ n, n = (firstS (x, y, z)).f1 := ⟨_, rfl⟩
        rw [← hf0] at hfi HK1
        rw [← hf1] at hff HK1
        have HFI := Aside0.mk hfi
        have HFF := Aside0.mk hff
        clear hk1 hne hf0 hf1 hfi hff hs0 hs1 hs2
        go_wp2_with fail
        have hbz := hB5.out
        have hgz := blk_below HG.out hbz
        have hxz := HX5.out
        have hfi := HFI.out
        have hff := HFF.out
        have hgl := blk_lt HG.out
        refine start_ (n := 6) (S := fun w' => w'.cell? ⟨g, 0, none⟩ = some (.slice Ag xs.length cg) ∧ w'.cell? ⟨w.heap.size, 0, none⟩ = some (.pointer p) ∧ w'.cell? ⟨w.heap.size, 1, none⟩ = some (.pointer q) ∧ w'.cell? ⟨w.heap.size, 2, none⟩ = some (.pointer r)) (ds := [4, 5]) #[false, false, false, false, false, false] (by kernel_rfl) rfl rfl ⟨(blk_cell hgz 0).trans rfl, (blk_cell hxz 0).trans rfl, (blk_cell hxz 1).trans rfl, (blk_cell hxz 2).trans rfl⟩ (fun hHeld => ?_)
        refine take_ (i := 0) (N := some 28) (v := ?_) (a' := ?_) #[true, false, false, false, false, false] rfl rfl (by kernel_rfl) (fun _ _ _ h => h) (Or.inl ⟨by rfl, ?_⟩) hHeld ?_ ?_
        rotate_left
        · rintro w' ⟨s0, s1, s2, s3⟩
          go_simp
          with_reducible rfl
        rotate_left
        · simp only [Act.put, List.setIfInBounds_toArray, List.set_cons_zero, List.set_cons_succ, i64_w, i32_w]
          rfl
        refine take_ (i := 1) (N := some 29) (v := ?_) (a' := ?_) #[true, true, false, false, false, false] rfl rfl (by kernel_rfl) (fun _ _ _ h => h) (Or.inl ⟨by rfl, ?_⟩) hHeld ?_ ?_
        rotate_left
        · rintro w' ⟨s0, s1, s2, s3⟩
          go_simp
          with_reducible rfl
        rotate_left
        · simp only [Act.put, List.setIfInBounds_toArray, List.set_cons_zero, List.set_cons_succ, i64_w, i32_w]
          rfl
        refine one_ (i := 2) (N := some 30) #[true, true, true, false, false, false] rfl rfl (by kernel_rfl) (by decide) (fun K hK => ?_)
        refine goes_ Try.func33 (by kernel_rfl) rfl #[.agg #[.pointer p, .pointer q, .pointer r]] (by rfl) rfl rfl (by simp only [List.map_toArray, List.map_cons, List.map_nil]; rfl) ?_
        refine (register_calls _ p q r a f0 f1 hfa (pw_cell_below (below_drew hbz) hfi) (pw_cell_below (below_drew hbz) hff)).mono ?_
        rintro e w5 ⟨rfl, hb5⟩
        refine ⟨_, rfl, ?_⟩
        refine hK.out _ _ ⟨pw_cell_below hb5 (hHeld.1), pw_cell_below hb5 (hHeld.2.1), pw_cell_below hb5 (hHeld.2.2.1), pw_cell_below hb5 (hHeld.2.2.2)⟩ (fun hHeld => ?_)
        clear hK K
        refine norm_ (a' := ?_) ?_ ?_
        rotate_left
        · show Act.put _ (some 30) _ = _
          simp only [Act.put, List.setIfInBounds_toArray, List.set_cons_zero, List.set_cons_succ, i64_w, i32_w]
          rfl
        refine one_ (i := 3) (N := some 31) #[true, true, true, true, false, false] rfl rfl (by kernel_rfl) (by decide) (fun K hK => ?_)
        have hb5w := below_step (below_drew hbz) hb5
        refine value_ (w1 := ?_) (v := ?_) (by rfl) rfl ?_ ?_
        rotate_left 2
        · go_simp
          constructor
          · rfl
          · rfl
        refine hK.out _ _ ⟨pw_cell_below (below_alloc (Below.refl _ _) _) (hHeld.1), pw_cell_below (below_alloc (Below.refl _ _) _) (hHeld.2.1), pw_cell_below (below_alloc (Below.refl _ _) _) (hHeld.2.2.1), pw_cell_below (below_alloc (Below.refl _ _) _) (hHeld.2.2.2)⟩ (fun hHeld => ?_)
        clear hK K
        refine norm_ (a' := ?_) ?_ ?_
        rotate_left
        · show Act.put _ (some 31) _ = _
          simp only [Act.put, List.setIfInBounds_toArray, List.set_cons_zero, List.set_cons_succ, i64_w, i32_w]
          rfl
        refine last_ (i := 4) (N := some 32) #[true, true, true, true, true, false] rfl rfl (by kernel_rfl) (by decide) (fun K hK => ?_)
        refine Kd.R_append_step k36 (w0 := w0) B (by rfl) (.tmp 28) (.tmp 31) 32 36 (.agg #[(.int .i64 0), (.int .i64 0)]) 16 (by rfl) Try.underlying32 info36 rfl (by decide) (by omega) (.slice Ag xs.length cg) xs ⟨f0, f1⟩ [.int .i64 f0, .int .i64 f1] (fun k => ok k ∨ w.heap.size ≤ k) (fun _ => False) (by rfl) (by rfl) (k36_mkM _ _ _ ⟨f0, f1⟩) (fun _ hk => hk.elim) (fun k hk => .inr (Nat.le_trans hb5w.size hk)) (Kd.R_mono (Kd.R_below HR1.out hb5w) (fun _ hk => .inl hk)) (HBB.out.trans (hb5w.mono hBw)) (Nat.le_trans hBw hb5w.size) hlen ?_
        intro v1 w6 ho hb hg hat
        obtain ⟨Ag1, cg1, rfl⟩ := Kd.R_slice ho
        rw [List.length_append, List.length_singleton] at ho
        have hg5 := blk_below HG.out hb5w
        have hg6 := blk_grown hg5 hg (Kd.R_ne (Kd.R_below HR1.out hb5w) hg5 (by decide))
        have hc6 : w6.cell? ⟨g, 0, none⟩ = some (.slice Ag xs.length cg) := (blk_cell hg6 0).trans rfl
        have hf6 := blk_frozen hg6 0
        refine hK.out _ _ ?_
        clear hK K
        refine norm_ (a' := ?_) ?_ ?_
        rotate_left
        · show Act.put _ (some 32) _ = _
          simp only [Act.put, List.setIfInBounds_toArray, List.set_cons_zero, List.set_cons_succ, i64_w, i32_w]
          rfl
        refine last_ (i := 5) (N := none) #[true, true, true, true, true, true] rfl rfl (by kernel_rfl) (by decide) (fun K hK => ?_)
        refine skip_ (w1 := ?_) (by rfl) rfl ?_ ?_
        rotate_left
        · go_simp
          rfl
        refine hK.out _ _ ?_
        clear hK K
        refine done_ (by kernel_rfl) ?_
        go_wp2
        go_end0
        rw [HK1.out]
        exact ⟨rfl, spot_done hb5w hg5 hgl hBg (Kd.R_below HR1.out hb5w) ho hb hg⟩
end Go.Proofs.Ytcecekmhikmkhaa.M
