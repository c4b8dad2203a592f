/- Made by a program of this session's own (a turned copy of the kit's printer); not trusted: Lean checks it. -/
import Derived.Test.YtcecekmhikmkhaaMx0
import Derived.Test.YtcecekmhikmkhaaMx4
import Derived.Test.YtcecekmhikmkhaaMx5
namespace Go.Proofs.Ytcecekmhikmkhaa.M
open Go.RowKit Go.Proofs.YtcecekmhikmkhaaW.PrintWords Go.Proofs.YtcecekmhikmkhaaW.PrintLast Go.Proofs.YtcecekmhikmkhaaW.PrintMore
attribute [local go_sem] max2_int min2_int max_two min_two max_three min_three max_four min_four   -- for this text's walks alone
set_option linter.unusedVariables false
set_option linter.unusedSimpArgs false

/-! ### semvcsmade2_State: function 7 -/
mutual
def semvcsmade2_State.l0 : Nat → List (S44) → Int → List (S53) → Option ((List (S53)))
  | 0, _, _, _ => none
  | k + 1, x0, x4, x163000 => if x4 < (x0.length : Int) then (semvcsmade2_State.j1 k x0 x4 (decide (x4 < 40)) x163000) else (semvcsmade2_State.j1 k x0 x4 false x163000)
def semvcsmade2_State.j1 : Nat → List (S44) → Int → Bool → List (S53) → Option ((List (S53)))
  | 0, _, _, _, _ => none
  | k + 1, x0, x4, x18, x163000 => if x18 = true then (if 0 ≤ x4 then (if x4 < (x0.length : Int) then ((semvcsmade2_Id.f ((rd_T44 x0 x4).f0) 3).bind fun t164 => ((semvcsmade2_fields.f ((rd_T44 x0 x4).f1)).bind fun t166 => ((semvcsmade2_Id.f ((rd_T44 x0 x4).f2) 4).bind fun t168 => ((semvcsref25_Alts.f k x163000 t164 t166).bind fun t169 => (semvcsmade2_State.l1 k x0 x4 t164 t166 t168 t169 0 x163000))))) else (none)) else (none)) else (some x163000)
def semvcsmade2_State.j3 : Nat → List (S44) → Int → Int → Int → Int → List (S49) → Int → List (S53) → Option ((List (S53)))
  | 0, _, _, _, _, _, _, _, _ => none
  | k + 1, x0, x4, x5, x6, x7, x8, x9, x163000 => if x9 < (x8.length : Int) then (if 0 ≤ x9 then (semvcsmade2_State.j4 k x0 x4 x5 x6 x7 x8 x9 (((rd_T49 x8 x9).f0) == x7) x163000) else (none)) else (semvcsmade2_State.j4 k x0 x4 x5 x6 x7 x8 x9 false x163000)
def semvcsmade2_State.j4 : Nat → List (S44) → Int → Int → Int → Int → List (S49) → Int → Bool → List (S53) → Option ((List (S53)))
  | 0, _, _, _, _, _, _, _, _, _ => none
  | k + 1, x0, x4, x5, x6, x7, x8, x9, x70, x163000 => if x70 = true then (semvcsmade2_State.l0 k x0 (wrap64 (x4 + 1)) x163000) else ((some (([] : List (S49)) : List (S49))).bind fun y174 => (if 0 ≤ x9 then (if x9 ≤ (x8.length : Int) then ((some (x8.take (x9 : Int).toNat : List (S49))).bind fun y177 => (if y174.length + y177.length < 2932031007402 then ((some (y174 ++ y177 : List (S49))).bind fun y182 => ((semvcsmade2_Value.f x5 x6 x7).bind fun bt185 => (if y182.length < 2932031007402 then ((some (y182 ++ [(⟨x7, (⟨bt185.1, bt185.2.1, bt185.2.2.1, bt185.2.2.2⟩ : S47)⟩ : S49)] : List (S49))).bind fun y189 => ((some (x8.drop (x9 : Int).toNat : List (S49))).bind fun y192 => (if y189.length + y192.length < 2932031007402 then ((semvcsref25_Set.f k x163000 x5 x6 (y189 ++ y192)).bind fun t200 => (semvcsmade2_State.l0 k x0 (wrap64 (x4 + 1)) t200)) else (none)))) else (none)))) else (none))) else (none)) else (none)))
def semvcsmade2_State.l1 : Nat → List (S44) → Int → Int → Int → Int → List (S49) → Int → List (S53) → Option ((List (S53)))
  | 0, _, _, _, _, _, _, _, _ => none
  | k + 1, x0, x4, x5, x6, x7, x8, x9, x163000 => if x9 < (x8.length : Int) then (if 0 ≤ x9 then (if ((rd_T49 x8 x9).f0) < x7 then (semvcsmade2_State.l1 k x0 x4 x5 x6 x7 x8 (wrap64 (x9 + 1)) x163000) else (semvcsmade2_State.j3 k x0 x4 x5 x6 x7 x8 x9 x163000)) else (none)) else (semvcsmade2_State.j3 k x0 x4 x5 x6 x7 x8 x9 x163000)
end
def semvcsmade2_State.f (k : Nat) (l0 : List (S44)) : Option ((List (S53))) := semvcsmade2_State.l0 k l0 0 ([] : List (S53))
theorem semvcsmade2_State.mono_l : ∀ k, (∀ y0 y1 y2, LeO (semvcsmade2_State.l0 k y0 y1 y2) (semvcsmade2_State.l0 (k + 1) y0 y1 y2)) ∧ (∀ y0 y1 y2 y3, LeO (semvcsmade2_State.j1 k y0 y1 y2 y3) (semvcsmade2_State.j1 (k + 1) y0 y1 y2 y3)) ∧ (∀ y0 y1 y2 y3 y4 y5 y6 y7, LeO (semvcsmade2_State.j3 k y0 y1 y2 y3 y4 y5 y6 y7) (semvcsmade2_State.j3 (k + 1) y0 y1 y2 y3 y4 y5 y6 y7)) ∧ (∀ y0 y1 y2 y3 y4 y5 y6 y7 y8, LeO (semvcsmade2_State.j4 k y0 y1 y2 y3 y4 y5 y6 y7 y8) (semvcsmade2_State.j4 (k + 1) y0 y1 y2 y3 y4 y5 y6 y7 y8)) ∧ (∀ y0 y1 y2 y3 y4 y5 y6 y7, LeO (semvcsmade2_State.l1 k y0 y1 y2 y3 y4 y5 y6 y7) (semvcsmade2_State.l1 (k + 1) y0 y1 y2 y3 y4 y5 y6 y7))
  | 0 => ⟨fun _ _ _ r h => by simp [semvcsmade2_State.l0] at h, fun _ _ _ _ r h => by simp [semvcsmade2_State.j1] at h, fun _ _ _ _ _ _ _ _ r h => by simp [semvcsmade2_State.j3] at h, fun _ _ _ _ _ _ _ _ _ r h => by simp [semvcsmade2_State.j4] at h, fun _ _ _ _ _ _ _ _ r h => by simp [semvcsmade2_State.l1] at h⟩
  | k + 1 => by
    obtain ⟨ih0, ih1, ih2, ih3, ih4⟩ := semvcsmade2_State.mono_l k
    refine ⟨?_, ?_, ?_, ?_, ?_⟩
    · intro y0 y1 y2
      unfold semvcsmade2_State.l0
      repeat' first
      | (with_reducible exact ih0 _ _ _)
      | (with_reducible exact ih1 _ _ _ _)
      | (with_reducible exact ih2 _ _ _ _ _ _ _ _)
      | (with_reducible exact ih3 _ _ _ _ _ _ _ _ _)
      | (with_reducible exact ih4 _ _ _ _ _ _ _ _)
      | (with_reducible exact semvcsref25_Alts.mono _ _ _ _)
      | (with_reducible exact semvcsref25_Set.mono _ _ _ _ _)
      | (with_reducible exact LeO.refl _)
      | (with_reducible exact LeO.none _)
      | (with_reducible refine LeO.ite ?_ ?_)
      | (with_reducible refine LeO.bind ?_ (fun _ => ?_))
      | exact ih0 _ _ _
      | exact ih1 _ _ _ _
      | exact ih2 _ _ _ _ _ _ _ _
      | exact ih3 _ _ _ _ _ _ _ _ _
      | exact ih4 _ _ _ _ _ _ _ _
      | exact semvcsref25_Alts.mono _ _ _ _
      | exact semvcsref25_Set.mono _ _ _ _ _
      | exact LeO.none _
      | refine LeO.ite ?_ ?_
      | refine LeO.bind ?_ (fun _ => ?_)
    · intro y0 y1 y2 y3
      unfold semvcsmade2_State.j1
      repeat' first
      | (with_reducible exact ih0 _ _ _)
      | (with_reducible exact ih1 _ _ _ _)
      | (with_reducible exact ih2 _ _ _ _ _ _ _ _)
      | (with_reducible exact ih3 _ _ _ _ _ _ _ _ _)
      | (with_reducible exact ih4 _ _ _ _ _ _ _ _)
      | (with_reducible exact semvcsref25_Alts.mono _ _ _ _)
      | (with_reducible exact semvcsref25_Set.mono _ _ _ _ _)
      | (with_reducible exact LeO.refl _)
      | (with_reducible exact LeO.none _)
      | (with_reducible refine LeO.ite ?_ ?_)
      | (with_reducible refine LeO.bind ?_ (fun _ => ?_))
      | exact ih0 _ _ _
      | exact ih1 _ _ _ _
      | exact ih2 _ _ _ _ _ _ _ _
      | exact ih3 _ _ _ _ _ _ _ _ _
      | exact ih4 _ _ _ _ _ _ _ _
      | exact semvcsref25_Alts.mono _ _ _ _
      | exact semvcsref25_Set.mono _ _ _ _ _
      | exact LeO.none _
      | refine LeO.ite ?_ ?_
      | refine LeO.bind ?_ (fun _ => ?_)
    · intro y0 y1 y2 y3 y4 y5 y6 y7
      unfold semvcsmade2_State.j3
      repeat' first
      | (with_reducible exact ih0 _ _ _)
      | (with_reducible exact ih1 _ _ _ _)
      | (with_reducible exact ih2 _ _ _ _ _ _ _ _)
      | (with_reducible exact ih3 _ _ _ _ _ _ _ _ _)
      | (with_reducible exact ih4 _ _ _ _ _ _ _ _)
      | (with_reducible exact semvcsref25_Alts.mono _ _ _ _)
      | (with_reducible exact semvcsref25_Set.mono _ _ _ _ _)
      | (with_reducible exact LeO.refl _)
      | (with_reducible exact LeO.none _)
      | (with_reducible refine LeO.ite ?_ ?_)
      | (with_reducible refine LeO.bind ?_ (fun _ => ?_))
      | exact ih0 _ _ _
      | exact ih1 _ _ _ _
      | exact ih2 _ _ _ _ _ _ _ _
      | exact ih3 _ _ _ _ _ _ _ _ _
      | exact ih4 _ _ _ _ _ _ _ _
      | exact semvcsref25_Alts.mono _ _ _ _
      | exact semvcsref25_Set.mono _ _ _ _ _
      | exact LeO.none _
      | refine LeO.ite ?_ ?_
      | refine LeO.bind ?_ (fun _ => ?_)
    · intro y0 y1 y2 y3 y4 y5 y6 y7 y8
      unfold semvcsmade2_State.j4
      repeat' first
      | (with_reducible exact ih0 _ _ _)
      | (with_reducible exact ih1 _ _ _ _)
      | (with_reducible exact ih2 _ _ _ _ _ _ _ _)
      | (with_reducible exact ih3 _ _ _ _ _ _ _ _ _)
      | (with_reducible exact ih4 _ _ _ _ _ _ _ _)
      | (with_reducible exact semvcsref25_Alts.mono _ _ _ _)
      | (with_reducible exact semvcsref25_Set.mono _ _ _ _ _)
      | (with_reducible exact LeO.refl _)
      | (with_reducible exact LeO.none _)
      | (with_reducible refine LeO.ite ?_ ?_)
      | (with_reducible refine LeO.bind ?_ (fun _ => ?_))
      | exact ih0 _ _ _
      | exact ih1 _ _ _ _
      | exact ih2 _ _ _ _ _ _ _ _
      | exact ih3 _ _ _ _ _ _ _ _ _
      | exact ih4 _ _ _ _ _ _ _ _
      | exact semvcsref25_Alts.mono _ _ _ _
      | exact semvcsref25_Set.mono _ _ _ _ _
      | exact LeO.none _
      | refine LeO.ite ?_ ?_
      | refine LeO.bind ?_ (fun _ => ?_)
    · intro y0 y1 y2 y3 y4 y5 y6 y7
      unfold semvcsmade2_State.l1
      repeat' first
      | (with_reducible exact ih0 _ _ _)
      | (with_reducible exact ih1 _ _ _ _)
      | (with_reducible exact ih2 _ _ _ _ _ _ _ _)
      | (with_reducible exact ih3 _ _ _ _ _ _ _ _ _)
      | (with_reducible exact ih4 _ _ _ _ _ _ _ _)
      | (with_reducible exact semvcsref25_Alts.mono _ _ _ _)
      | (with_reducible exact semvcsref25_Set.mono _ _ _ _ _)
      | (with_reducible exact LeO.refl _)
      | (with_reducible exact LeO.none _)
      | (with_reducible refine LeO.ite ?_ ?_)
      | (with_reducible refine LeO.bind ?_ (fun _ => ?_))
      | exact ih0 _ _ _
      | exact ih1 _ _ _ _
      | exact ih2 _ _ _ _ _ _ _ _
      | exact ih3 _ _ _ _ _ _ _ _ _
      | exact ih4 _ _ _ _ _ _ _ _
      | exact semvcsref25_Alts.mono _ _ _ _
      | exact semvcsref25_Set.mono _ _ _ _ _
      | exact LeO.none _
      | refine LeO.ite ?_ ?_
      | refine LeO.bind ?_ (fun _ => ?_)
theorem semvcsmade2_State.mono : ∀ a0 k, LeO (semvcsmade2_State.f k a0) (semvcsmade2_State.f (k + 1) a0) := by
  intro a0 k
  obtain ⟨ih0, ih1, ih2, ih3, ih4⟩ := semvcsmade2_State.mono_l k
  unfold semvcsmade2_State.f
  repeat' first
      | (with_reducible exact ih0 _ _ _)
      | (with_reducible exact ih1 _ _ _ _)
      | (with_reducible exact ih2 _ _ _ _ _ _ _ _)
      | (with_reducible exact ih3 _ _ _ _ _ _ _ _ _)
      | (with_reducible exact ih4 _ _ _ _ _ _ _ _)
      | (with_reducible exact semvcsref25_Alts.mono _ _ _ _)
      | (with_reducible exact semvcsref25_Set.mono _ _ _ _ _)
      | (with_reducible exact LeO.refl _)
      | (with_reducible exact LeO.none _)
      | (with_reducible refine LeO.ite ?_ ?_)
      | (with_reducible refine LeO.bind ?_ (fun _ => ?_))
      | exact ih0 _ _ _
      | exact ih1 _ _ _ _
      | exact ih2 _ _ _ _ _ _ _ _
      | exact ih3 _ _ _ _ _ _ _ _ _
      | exact ih4 _ _ _ _ _ _ _ _
      | exact semvcsref25_Alts.mono _ _ _ _
      | exact semvcsref25_Set.mono _ _ _ _ _
      | exact LeO.none _
      | refine LeO.ite ?_ ?_
      | refine LeO.bind ?_ (fun _ => ?_)
def semvcsmade2_State.T5 : Bool × List (List Nat × List Nat) := (true, [([], []), ([], []), ([0, 1], [0, 1]), ([2], [2]), ([3], [3]), ([4], [4]), ([], []), ([], []), ([6, 7], [6, 7]), ([8], [8]), ([9], [9]), ([10, 5], [10]), ([], []), ([], []), ([12, 13], [12, 13]), ([14], [14]), ([15], [15]), ([16, 11], [16]), ([5, 17, 0, 1, 2, 3, 4, 5], [5]), ([11, 18, 0, 1, 2, 3, 4, 5, 6, 7, 8, 9, 10, 11, 18], [11]), ([17, 19, 0, 1, 2, 3, 4, 5, 6, 7, 8, 9, 10, 11, 12, 13, 14, 15, 16, 17, 18, 19], [17])])
def semvcsmade2_State.B5 : List Nat := [0, 0, 3, 7, 15, 31, 0, 0, 192, 448, 960, 2047, 0, 0, 12288, 28672, 61440, 131071, 262143, 524287, 1048575]
theorem semvcsmade2_State.tab5 : rtab .any (opsOf Try.f7 5) = semvcsmade2_State.T5 := by kernel_rfl
theorem semvcsmade2_State.bits5 : waitsOk semvcsmade2_State.T5.2 semvcsmade2_State.B5 = true := by kernel_rfl
def semvcsmade2_State.T13 : Bool × List (List Nat × List Nat) := (true, [([], []), ([], []), ([], []), ([], []), ([], []), ([], []), ([4, 5], [4, 5]), ([3, 6], [3, 6]), ([0, 1, 2, 7, 7], [0, 1, 2, 7]), ([8, 8, 0, 1, 2, 3, 4, 5, 6, 7, 8], [8])])
def semvcsmade2_State.B13 : List Nat := [0, 0, 0, 0, 0, 0, 48, 120, 255, 511]
theorem semvcsmade2_State.tab13 : rtab .any (opsOf Try.f7 13) = semvcsmade2_State.T13 := by kernel_rfl
theorem semvcsmade2_State.bits13 : waitsOk semvcsmade2_State.T13.2 semvcsmade2_State.B13 = true := by kernel_rfl
set_option maxHeartbeats 8000000 in
set_option maxRecDepth 100000 in
theorem semvcsmade2_State.calls (k : Nat) (A0 : Option Addr) (c0 : Nat) (l0 : List (S44)) (r : List (S53)) (w : World) (hr0 : Kd.C k44 w A0 l0.length l0) (hc0 : l0.length ≤ c0) (h : semvcsmade2_State.f k l0 = some r) :
    Calls Try.prog 7 #[.slice A0 l0.length c0] w fun e w' => ∃ v0_ : Value, e = .returned (.agg #[v0_]) ∧ Kd.N k53 53 w' w.heap.size (fun k_ => (w.heap.size ≤ k_)) v0_ r ∧ Below w.heap.size w w' := by
  have hu25 := Try.underlying25
  have hu49 := Try.underlying49
  have HR0 := Aside0.mk hr0
  have HC0 := Aside0.mk hc0
  clear hr0 hc0
  have HB := Aside0.mk (Below.refl w.heap.size w)
  have H : (semvcsmade2_State.l0 k l0 0 ([] : List (S53))) = some r := h
  clear h
  have H' := Aside0.mk H
  clear H
  go_enter Try.func7, Try.ntmps7
  go_wp2_with (first | ((with_reducible refine gate_dst (N := 2) rfl ?_); refine box_event ?hg (N := 2) ?hd (cs := #[.slice none 0 0]) (t := 25) ?hr ?_; (case hd => rfl); (case hg => rfl); (case hr => first | (go_simp; done) | (go_simp; rfl)); intro gb161 hg w2 hbox hb; have n0_ := Aside0.mk (below_step (by repeat (first | (with_reducible first | exact HB.out | apply below_alloc | apply pw_below_drewN | apply below_drew1) | exact HB.out)) hb); have n1_ := Aside0.mk (hbox); have n2_ := Aside0.mk ((by rw [hg]; exact (below_size (by repeat (first | (with_reducible first | exact HB.out | apply below_alloc | apply pw_below_drewN | apply below_drew1) | exact HB.out))) : w.heap.size ≤ gb161)); have n3_ := Aside0.mk ((by rw [hg]; exact (below_size (by repeat (first | (with_reducible first | exact HB.out | apply below_alloc | apply pw_below_drewN | apply below_drew1) | exact HB.out))) : w.heap.size ≤ gb161)); clear HB; have HB := n0_; have BK161 := n1_; have GW161 := n2_; have GE161 := n3_; clear n0_ n1_ n2_ n3_; clear hb hbox hg) | ((with_reducible refine gate_dst (N := 3) rfl ?_); refine box_event ?hg (N := 3) ?hd (cs := #[.slice none 0 0]) (t := 25) ?hr ?_; (case hd => rfl); (case hg => rfl); (case hr => first | (go_simp; done) | (go_simp; rfl)); intro gb162 hg w3 hbox hb; have n0_ := Aside0.mk (blk_below (g := gb161) (o := .cells #[.slice none 0 0] 25 (0, 0)) (by (with_reducible repeat (first | refine blk_drewN ?_ _ | refine blk_drew ?_ | refine blk_alloc ?_ _)); exact BK161.out) hb); have n1_ := Aside0.mk (below_step (by repeat (first | (with_reducible first | exact HB.out | apply below_alloc | apply pw_below_drewN | apply below_drew1 | refine below_set ?_ GE161.out) | exact HB.out)) hb); have n2_ := Aside0.mk (hbox); have n3_ := Aside0.mk ((by rw [hg]; exact (below_size (by repeat (first | (with_reducible first | exact HB.out | apply below_alloc | apply pw_below_drewN | apply below_drew1 | refine below_set ?_ GE161.out) | exact HB.out))) : w.heap.size ≤ gb162)); have n4_ := Aside0.mk ((by rw [hg]; exact (below_size (by repeat (first | (with_reducible first | exact HB.out | apply below_alloc | apply pw_below_drewN | apply below_drew1 | refine below_set ?_ GE161.out) | exact HB.out))) : w.heap.size ≤ gb162)); have n5_ := Aside0.mk ((by rw [hg]; exact Nat.ne_of_lt (blk_lt (g := gb161) (o := .cells #[.slice none 0 0] 25 (0, 0)) (by (with_reducible repeat (first | refine blk_drewN ?_ _ | refine blk_drew ?_ | refine blk_alloc ?_ _)); exact BK161.out)) : gb161 ≠ gb162)); have n6_ := Aside0.mk ((by rw [hg]; exact Nat.ne_of_gt (blk_lt (g := gb161) (o := .cells #[.slice none 0 0] 25 (0, 0)) (by (with_reducible repeat (first | refine blk_drewN ?_ _ | refine blk_drew ?_ | refine blk_alloc ?_ _)); exact BK161.out)) : gb162 ≠ gb161)); clear BK161; clear HB; have BK161 := n0_; have HB := n1_; have BK162 := n2_; have GW162 := n3_; have GE162 := n4_; have NB161_162 := n5_; have NB162_161 := n6_; clear n0_ n1_ n2_ n3_ n4_ n5_ n6_; clear hb hbox hg))
  go_loopg [4] k (fun kq v4 w' => ∃ (x4_1 : Int) (x163000_1 : List (S53)) (u163000 : Value), v4 = .int .i64 x4_1 ∧ Aside0 (semvcsmade2_State.l0 kq l0 x4_1 x163000_1 = some r) ∧ Aside0 (kq ≤ k) ∧ Aside0 (Kd.N k53 53 w' w.heap.size (fun k_ => (w.heap.size ≤ k_) ∧ k_ ≠ gb161 ∧ k_ ≠ gb162) u163000 x163000_1) ∧ Aside0 (w'.heap[gb161]? = some (.cells #[(.slice none 0 0)] 25 (0, 0))) ∧ Aside0 (w'.heap[gb162]? = some (.cells #[u163000] 25 (0, 0))) ∧ Aside0 (Below w.heap.size w w'))
  case atStart => exact ⟨(0), (([] : List (S53))), (.slice none 0 0), (by first | rfl | (simp; done) | (simp [*]; done)), H', ⟨Nat.le_refl _⟩, ⟨by first | exact Kd.S_nil _ _ _ _ _ | exact Kd.N_nil _ _ _ _ _ | exact Kd.V_nil _ _ _ _ _ | exact Kd.Q_nil _ _ _ _ _ | exact Kd.R_nil _ _ _ _ _⟩, ⟨by (with_reducible repeat (first | refine blk_drewN ?_ _ | refine blk_drew ?_ | refine blk_alloc ?_ _)); exact BK161.out⟩, ⟨by (with_reducible repeat (first | refine blk_drewN ?_ _ | refine blk_drew ?_ | refine blk_alloc ?_ _)); exact BK162.out⟩, ⟨by repeat (first | (with_reducible first | exact HB.out | apply below_alloc | apply pw_below_drewN | apply below_drew1 | refine below_set ?_ GE161.out | refine below_set ?_ GE162.out) | exact HB.out)⟩⟩
  case round =>
    clear H'
    try clear p2
    obtain ⟨x4_1, x163000_1, u163000, rfl, HA, HK1, HO_163000, BK161, BK162, HB⟩ := hrel
    cases gk with
    | zero => exact absurd HA.out (by simp [semvcsmade2_State.l0])
    | succ k1 =>
      have H := HA.out
      clear HA
      simp only [semvcsmade2_State.l0] at H
      have HC4 := Aside0.mk H
      clear H
      go_upto_region 3 with (fail)
      go_cut [18] (fun v18 wc => ∃ (kq : Nat) (x18_3 : Bool), v18 = .bool x18_3 ∧ Aside0 (semvcsmade2_State.j1 kq l0 x4_1 x18_3 x163000_1 = some r) ∧ Aside0 (kq ≤ k1) ∧ Aside0 (Kd.N k53 53 wc w.heap.size (fun k_ => (w.heap.size ≤ k_) ∧ k_ ≠ gb161 ∧ k_ ≠ gb162) u163000 x163000_1) ∧ Aside0 (wc.heap[gb161]? = some (.cells #[(.slice none 0 0)] 25 (0, 0))) ∧ Aside0 (wc.heap[gb162]? = some (.cells #[u163000] 25 (0, 0))) ∧ Aside0 (Below w.heap.size w wc))
      case first =>
        have H := HC4.out
        clear HC4
        by_cases c5 : x4_1 < (l0.length : Int)
        · rw [if_pos c5] at H
          have c5b0 : decide (x4_1 < (l0.length : Int)) = true := decide_eq_true c5
          clear c5
          (first | rw [c5b0] | (simp only [i64_w, i32_w]; rw [c5b0]) | rw [c5b1] | skip)
          have H' := Aside0.mk H
          clear H
          go_wp2
          go_meet
          case rel => exact ⟨_, (decide (x4_1 < 40)), (by first | rfl | (simp; done) | (simp [*]; done)), H', ⟨by have := HK1.out; first | omega | exact Nat.le_refl _⟩, ⟨by (with_reducible repeat (first | apply Kd.N_alloc | apply Kd.N_drewN | apply Kd.N_drew)); exact HO_163000.out⟩, ⟨by (with_reducible repeat (first | refine blk_drewN ?_ _ | refine blk_drew ?_ | refine blk_alloc ?_ _)); exact BK161.out⟩, ⟨by (with_reducible repeat (first | refine blk_drewN ?_ _ | refine blk_drew ?_ | refine blk_alloc ?_ _)); exact BK162.out⟩, ⟨by repeat (first | (with_reducible first | exact HB.out | apply below_alloc | apply pw_below_drewN | apply below_drew1 | refine below_set ?_ GE161.out | refine below_set ?_ GE162.out) | exact HB.out)⟩⟩
        · rw [if_neg c5] at H
          have c5b0 : decide (x4_1 < (l0.length : Int)) = false := decide_eq_false c5
          clear c5
          (first | rw [c5b0] | (simp only [i64_w, i32_w]; rw [c5b0]) | rw [c5b1] | skip)
          have H' := Aside0.mk H
          clear H
          go_wp2
          go_meet
          case rel => exact ⟨_, (false), (by first | rfl | (simp; done) | (simp [*]; done)), H', ⟨by have := HK1.out; first | omega | exact Nat.le_refl _⟩, ⟨by (with_reducible repeat (first | apply Kd.N_alloc | apply Kd.N_drewN | apply Kd.N_drew)); exact HO_163000.out⟩, ⟨by (with_reducible repeat (first | refine blk_drewN ?_ _ | refine blk_drew ?_ | refine blk_alloc ?_ _)); exact BK161.out⟩, ⟨by (with_reducible repeat (first | refine blk_drewN ?_ _ | refine blk_drew ?_ | refine blk_alloc ?_ _)); exact BK162.out⟩, ⟨by repeat (first | (with_reducible first | exact HB.out | apply below_alloc | apply pw_below_drewN | apply below_drew1 | refine below_set ?_ GE161.out | refine below_set ?_ GE162.out) | exact HB.out)⟩⟩
      case rest =>
        clear HC4
        try clear p2
        try clear c5
        try clear c5b0
        try clear p2
        obtain ⟨kq, x18_3, rfl, HA, HJ3, HO_163000, BK161, BK162, HB⟩ := hcut
        cases kq with
        | zero => exact absurd HA.out (by simp [semvcsmade2_State.j1])
        | succ kj3 =>
          have H := HA.out
          clear HA
          simp only [semvcsmade2_State.j1] at H
          by_cases c6 : x18_3 = true
          · subst c6
            have H1 : (if 0 ≤ x4_1 then (if x4_1 < (l0.length : Int) then ((semvcsmade2_Id.f ((rd_T44 l0 x4_1).f0) 3).bind fun t164 => ((semvcsmade2_fields.f ((rd_T44 l0 x4_1).f1)).bind fun t166 => ((semvcsmade2_Id.f ((rd_T44 l0 x4_1).f2) 4).bind fun t168 => ((semvcsref25_Alts.f kj3 x163000_1 t164 t166).bind fun t169 => (semvcsmade2_State.l1 kj3 l0 x4_1 t164 t166 t168 t169 0 x163000_1))))) else (none)) else (none)) = some r := by rw [if_pos rfl] at H; exact H
            clear H
            have H := H1
            clear H1
            by_cases c7 : 0 ≤ x4_1
            · rw [if_pos c7] at H
              have c7b0 : decide (0 ≤ x4_1) = true := decide_eq_true c7
              clear c7
              by_cases c8 : x4_1 < (l0.length : Int)
              · rw [if_pos c8] at H
                have c8b0 : decide (x4_1 < (l0.length : Int)) = true := decide_eq_true c8
                clear c8
                replace H := Option.bind_eq_some_iff.mp H
                obtain ⟨t164, A90, H⟩ := H
                replace H : ((semvcsmade2_fields.f ((rd_T44 l0 x4_1).f1)).bind fun t166 => ((semvcsmade2_Id.f ((rd_T44 l0 x4_1).f2) 4).bind fun t168 => ((semvcsref25_Alts.f kj3 x163000_1 t164 t166).bind fun t169 => (semvcsmade2_State.l1 kj3 l0 x4_1 t164 t166 t168 t169 0 x163000_1)))) = some r := H
                have A9 := Aside0.mk A90
                clear A90
                replace H := Option.bind_eq_some_iff.mp H
                obtain ⟨t166, A100, H⟩ := H
                replace H : ((semvcsmade2_Id.f ((rd_T44 l0 x4_1).f2) 4).bind fun t168 => ((semvcsref25_Alts.f kj3 x163000_1 t164 t166).bind fun t169 => (semvcsmade2_State.l1 kj3 l0 x4_1 t164 t166 t168 t169 0 x163000_1))) = some r := H
                have A10 := Aside0.mk A100
                clear A100
                replace H := Option.bind_eq_some_iff.mp H
                obtain ⟨t168, A110, H⟩ := H
                replace H : ((semvcsref25_Alts.f kj3 x163000_1 t164 t166).bind fun t169 => (semvcsmade2_State.l1 kj3 l0 x4_1 t164 t166 t168 t169 0 x163000_1)) = some r := H
                have A11 := Aside0.mk A110
                clear A110
                replace H := Option.bind_eq_some_iff.mp H
                obtain ⟨t169, A120, H⟩ := H
                replace H : (semvcsmade2_State.l1 kj3 l0 x4_1 t164 t166 t168 t169 0 x163000_1) = some r := H
                have A12 := Aside0.mk A120
                clear A120
                have HC13 := Aside0.mk H
                clear H
                try go_wp2
                have n0_ := Aside0.mk (Kd.N_drew HO_163000.out)
                have n1_ := Aside0.mk (blk_drew BK161.out)
                have n2_ := Aside0.mk (blk_drew BK162.out)
                have n3_ := Aside0.mk (below_drew1 HB.out)
                clear HO_163000
                clear BK161
                clear BK162
                clear HB
                have HO_163000 := n0_
                have BK161 := n1_
                have BK162 := n2_
                have HB := n3_
                clear n0_ n1_ n2_ n3_
                have p163 : 0 ≤ (x4_1 : Int) := of_decide_eq_true (by first | (with_reducible assumption) | assumption)
                have q163 : x4_1 < (l0.length : Int) := of_decide_eq_true (by first | (with_reducible assumption) | assumption)
                obtain ⟨ad163, e163, hx163_0, hx163_1, hx163_2⟩ := at_T44 HR0.out x4_1 p163 q163
                have hw163_2 := hx163_2
                have hw163_1 := hx163_1
                have hw163_0 := hx163_0
                cases e163
                replace hx163_0 := (HB.out.cell (World.block_lt_of_cell? w _ hx163_0)).trans hx163_0
                replace hx163_1 := (HB.out.cell (World.block_lt_of_cell? w _ hx163_1)).trans hx163_1
                replace hx163_2 := (HB.out.cell (World.block_lt_of_cell? w _ hx163_2)).trans hx163_2
                replace p163 := eq_true p163
                replace q163 := eq_true q163
                have p165 : 0 ≤ (x4_1 : Int) := of_decide_eq_true (by first | (with_reducible assumption) | assumption)
                have q165 : x4_1 < (l0.length : Int) := of_decide_eq_true (by first | (with_reducible assumption) | assumption)
                obtain ⟨ad165, e165, hx165_0, hx165_1, hx165_2⟩ := at_T44 HR0.out x4_1 p165 q165
                have hw165_2 := hx165_2
                have hw165_1 := hx165_1
                have hw165_0 := hx165_0
                obtain rfl : ad163 = ad165 := (by injection e165)
                replace hx165_0 := (HB.out.cell (World.block_lt_of_cell? w _ hx165_0)).trans hx165_0
                replace hx165_1 := (HB.out.cell (World.block_lt_of_cell? w _ hx165_1)).trans hx165_1
                replace hx165_2 := (HB.out.cell (World.block_lt_of_cell? w _ hx165_2)).trans hx165_2
                replace p165 := eq_true p165
                replace q165 := eq_true q165
                have p167 : 0 ≤ (x4_1 : Int) := of_decide_eq_true (by first | (with_reducible assumption) | assumption)
                have q167 : x4_1 < (l0.length : Int) := of_decide_eq_true (by first | (with_reducible assumption) | assumption)
                obtain ⟨ad167, e167, hx167_0, hx167_1, hx167_2⟩ := at_T44 HR0.out x4_1 p167 q167
                have hw167_2 := hx167_2
                have hw167_1 := hx167_1
                have hw167_0 := hx167_0
                obtain rfl : ad163 = ad167 := (by injection e167)
                replace hx167_0 := (HB.out.cell (World.block_lt_of_cell? w _ hx167_0)).trans hx167_0
                replace hx167_1 := (HB.out.cell (World.block_lt_of_cell? w _ hx167_1)).trans hx167_1
                replace hx167_2 := (HB.out.cell (World.block_lt_of_cell? w _ hx167_2)).trans hx167_2
                replace p167 := eq_true p167
                replace q167 := eq_true q167
                refine start_ (n := 21) (S := fun w' => w'.cell? (ad163.add ((x4_1).toNat * 3)) = some (.int .i64 ((rd_T44 l0 x4_1).f0)) ∧ w'.cell? ⟨(ad163.add ((x4_1).toNat * 3)).block, (ad163.add ((x4_1).toNat * 3)).off + 1, none⟩ = some (.int .i64 ((rd_T44 l0 x4_1).f1)) ∧ w'.cell? ⟨(ad163.add ((x4_1).toNat * 3)).block, (ad163.add ((x4_1).toNat * 3)).off + 2, none⟩ = some (.int .i64 ((rd_T44 l0 x4_1).f2)) ∧ w'.cell? (ad163.add ((x4_1).toNat * 3)) = some (.int .i64 ((rd_T44 l0 x4_1).f0)) ∧ w'.cell? ⟨(ad163.add ((x4_1).toNat * 3)).block, (ad163.add ((x4_1).toNat * 3)).off + 1, none⟩ = some (.int .i64 ((rd_T44 l0 x4_1).f1)) ∧ w'.cell? ⟨(ad163.add ((x4_1).toNat * 3)).block, (ad163.add ((x4_1).toNat * 3)).off + 2, none⟩ = some (.int .i64 ((rd_T44 l0 x4_1).f2)) ∧ w'.cell? (ad163.add ((x4_1).toNat * 3)) = some (.int .i64 ((rd_T44 l0 x4_1).f0)) ∧ w'.cell? ⟨(ad163.add ((x4_1).toNat * 3)).block, (ad163.add ((x4_1).toNat * 3)).off + 1, none⟩ = some (.int .i64 ((rd_T44 l0 x4_1).f1)) ∧ w'.cell? ⟨(ad163.add ((x4_1).toNat * 3)).block, (ad163.add ((x4_1).toNat * 3)).off + 2, none⟩ = some (.int .i64 ((rd_T44 l0 x4_1).f2))) (ds := []) #[false, false, false, false, false, false, false, false, false, false, false, false, false, false, false, false, false, false, false, false, false] (by kernel_rfl) rfl rfl ⟨((HB.out.cell (World.block_lt_of_cell? w _ hw163_0)).trans hw163_0), ((HB.out.cell (World.block_lt_of_cell? w _ hw163_1)).trans hw163_1), ((HB.out.cell (World.block_lt_of_cell? w _ hw163_2)).trans hw163_2), ((HB.out.cell (World.block_lt_of_cell? w _ hw165_0)).trans hw165_0), ((HB.out.cell (World.block_lt_of_cell? w _ hw165_1)).trans hw165_1), ((HB.out.cell (World.block_lt_of_cell? w _ hw165_2)).trans hw165_2), ((HB.out.cell (World.block_lt_of_cell? w _ hw167_0)).trans hw167_0), ((HB.out.cell (World.block_lt_of_cell? w _ hw167_1)).trans hw167_1), ((HB.out.cell (World.block_lt_of_cell? w _ hw167_2)).trans hw167_2)⟩ (fun hHeld => ?_); refine with_tabW semvcsmade2_State.tab5 semvcsmade2_State.bits5 (fun HT_ HW_ => ?_)
                generalize wc.drew = w14 at HO_163000 BK161 BK162 HB hx163_0 hx163_1 hx163_2 hx165_0 hx165_1 hx165_2 hx167_0 hx167_1 hx167_2 hHeld ⊢
                refine pure_ (i := 0) (N := some 21) (v := ?_) (a' := ?_) #[true, false, false, false, false, false, false, false, false, false, false, false, false, false, false, false, false, false, false, false, false] rfl rfl (any_of HT_.out (by kernel_rfl)) (fun _ _ _ h => h) (Or.inl ⟨by rfl, ?_⟩) ?_ ?_
                rotate_left
                · intro w'
                  go_simp
                  with_reducible rfl
                rotate_left
                · simp only [Act.put, List.setIfInBounds_toArray, List.set_cons_zero, List.set_cons_succ, i64_w, i32_w]
                  rfl
                refine pure_ (i := 1) (N := some 22) (v := ?_) (a' := ?_) #[true, true, false, false, false, false, false, false, false, false, false, false, false, false, false, false, false, false, false, false, false] rfl rfl (any_of HT_.out (by kernel_rfl)) (fun _ _ _ h => h) (Or.inl ⟨by rfl, ?_⟩) ?_ ?_
                rotate_left
                · intro w'
                  go_simp
                  with_reducible rfl
                rotate_left
                · simp only [Act.put, List.setIfInBounds_toArray, List.set_cons_zero, List.set_cons_succ, i64_w, i32_w]
                  rfl
                refine pure_ (i := 2) (N := some 23) (v := ?_) (a' := ?_) #[true, true, true, false, false, false, false, false, false, false, false, false, false, false, false, false, false, false, false, false, false] rfl rfl (any_of HT_.out (by kernel_rfl)) (fun _ _ _ h => h) (Or.inl ⟨by rfl, ?_⟩) ?_ ?_
                rotate_left
                · intro w'
                  go_simp
                  with_reducible rfl
                rotate_left
                · simp only [Act.put, List.setIfInBounds_toArray, List.set_cons_zero, List.set_cons_succ, i64_w, i32_w]
                  rfl
                refine pure_ (i := 3) (N := some 24) (v := ?_) (a' := ?_) #[true, true, true, true, false, false, false, false, false, false, false, false, false, false, false, false, false, false, false, false, false] rfl rfl (any_of HT_.out (by kernel_rfl)) (fun _ _ _ h => h) (Or.inl ⟨by rfl, ?_⟩) ?_ ?_
                rotate_left
                · intro w'
                  go_simp
                  with_reducible rfl
                rotate_left
                · simp only [Act.put, List.setIfInBounds_toArray, List.set_cons_zero, List.set_cons_succ, i64_w, i32_w]
                  rfl
                refine pure_ (i := 6) (N := some 27) (v := ?_) (a' := ?_) #[true, true, true, true, false, false, true, false, false, false, false, false, false, false, false, false, false, false, false, false, false] rfl rfl (any_of HT_.out (by kernel_rfl)) (fun _ _ _ h => h) (Or.inl ⟨by rfl, ?_⟩) ?_ ?_
                rotate_left
                · intro w'
                  go_simp
                  with_reducible rfl
                rotate_left
                · simp only [Act.put, List.setIfInBounds_toArray, List.set_cons_zero, List.set_cons_succ, i64_w, i32_w]
                  rfl
                refine pure_ (i := 7) (N := some 28) (v := ?_) (a' := ?_) #[true, true, true, true, false, false, true, true, false, false, false, false, false, false, false, false, false, false, false, false, false] rfl rfl (any_of HT_.out (by kernel_rfl)) (fun _ _ _ h => h) (Or.inl ⟨by rfl, ?_⟩) ?_ ?_
                rotate_left
                · intro w'
                  go_simp
                  with_reducible rfl
                rotate_left
                · simp only [Act.put, List.setIfInBounds_toArray, List.set_cons_zero, List.set_cons_succ, i64_w, i32_w]
                  rfl
                refine pure_ (i := 8) (N := some 29) (v := ?_) (a' := ?_) #[true, true, true, true, false, false, true, true, true, false, false, false, false, false, false, false, false, false, false, false, false] rfl rfl (any_of HT_.out (by kernel_rfl)) (fun _ _ _ h => h) (Or.inl ⟨by rfl, ?_⟩) ?_ ?_
                rotate_left
                · intro w'
                  go_simp
                  with_reducible rfl
                rotate_left
                · simp only [Act.put, List.setIfInBounds_toArray, List.set_cons_zero, List.set_cons_succ, i64_w, i32_w]
                  rfl
                refine pure_ (i := 9) (N := some 30) (v := ?_) (a' := ?_) #[true, true, true, true, false, false, true, true, true, true, false, false, false, false, false, false, false, false, false, false, false] rfl rfl (any_of HT_.out (by kernel_rfl)) (fun _ _ _ h => h) (Or.inl ⟨by rfl, ?_⟩) ?_ ?_
                rotate_left
                · intro w'
                  go_simp
                  with_reducible rfl
                rotate_left
                · simp only [Act.put, List.setIfInBounds_toArray, List.set_cons_zero, List.set_cons_succ, i64_w, i32_w]
                  rfl
                refine pure_ (i := 12) (N := some 33) (v := ?_) (a' := ?_) #[true, true, true, true, false, false, true, true, true, true, false, false, true, false, false, false, false, false, false, false, false] rfl rfl (any_of HT_.out (by kernel_rfl)) (fun _ _ _ h => h) (Or.inl ⟨by rfl, ?_⟩) ?_ ?_
                rotate_left
                · intro w'
                  go_simp
                  with_reducible rfl
                rotate_left
                · simp only [Act.put, List.setIfInBounds_toArray, List.set_cons_zero, List.set_cons_succ, i64_w, i32_w]
                  rfl
                refine pure_ (i := 13) (N := some 34) (v := ?_) (a' := ?_) #[true, true, true, true, false, false, true, true, true, true, false, false, true, true, false, false, false, false, false, false, false] rfl rfl (any_of HT_.out (by kernel_rfl)) (fun _ _ _ h => h) (Or.inl ⟨by rfl, ?_⟩) ?_ ?_
                rotate_left
                · intro w'
                  go_simp
                  with_reducible rfl
                rotate_left
                · simp only [Act.put, List.setIfInBounds_toArray, List.set_cons_zero, List.set_cons_succ, i64_w, i32_w]
                  rfl
                refine pure_ (i := 14) (N := some 35) (v := ?_) (a' := ?_) #[true, true, true, true, false, false, true, true, true, true, false, false, true, true, true, false, false, false, false, false, false] rfl rfl (any_of HT_.out (by kernel_rfl)) (fun _ _ _ h => h) (Or.inl ⟨by rfl, ?_⟩) ?_ ?_
                rotate_left
                · intro w'
                  go_simp
                  with_reducible rfl
                rotate_left
                · simp only [Act.put, List.setIfInBounds_toArray, List.set_cons_zero, List.set_cons_succ, i64_w, i32_w]
                  rfl
                refine pure_ (i := 15) (N := some 36) (v := ?_) (a' := ?_) #[true, true, true, true, false, false, true, true, true, true, false, false, true, true, true, true, false, false, false, false, false] rfl rfl (any_of HT_.out (by kernel_rfl)) (fun _ _ _ h => h) (Or.inl ⟨by rfl, ?_⟩) ?_ ?_
                rotate_left
                · intro w'
                  go_simp
                  with_reducible rfl
                rotate_left
                · simp only [Act.put, List.setIfInBounds_toArray, List.set_cons_zero, List.set_cons_succ, i64_w, i32_w]
                  rfl
                refine take_ (i := 4) (N := some 25) (v := ?_) (a' := ?_) #[true, true, true, true, true, false, true, true, true, true, false, false, true, true, true, true, false, false, false, false, false] rfl rfl (take_ofW HT_.out HW_.out (by kernel_rfl)) (fun _ _ _ h => h) (Or.inl ⟨by rfl, ?_⟩) hHeld ?_ ?_
                rotate_left
                · rintro w' ⟨s0, s1, s2, s3, s4, s5, s6, s7, s8⟩
                  go_simp
                  with_reducible rfl
                rotate_left
                · simp only [Act.put, List.setIfInBounds_toArray, List.set_cons_zero, List.set_cons_succ, i64_w, i32_w]
                  rfl
                refine take_ (i := 10) (N := some 31) (v := ?_) (a' := ?_) #[true, true, true, true, true, false, true, true, true, true, true, false, true, true, true, true, false, false, false, false, false] rfl rfl (take_ofW HT_.out HW_.out (by kernel_rfl)) (fun _ _ _ h => h) (Or.inl ⟨by rfl, ?_⟩) hHeld ?_ ?_
                rotate_left
                · rintro w' ⟨s0, s1, s2, s3, s4, s5, s6, s7, s8⟩
                  go_simp
                  with_reducible rfl
                rotate_left
                · simp only [Act.put, List.setIfInBounds_toArray, List.set_cons_zero, List.set_cons_succ, i64_w, i32_w]
                  rfl
                refine take_ (i := 16) (N := some 37) (v := ?_) (a' := ?_) #[true, true, true, true, true, false, true, true, true, true, true, false, true, true, true, true, true, false, false, false, false] rfl rfl (take_ofW HT_.out HW_.out (by kernel_rfl)) (fun _ _ _ h => h) (Or.inl ⟨by rfl, ?_⟩) hHeld ?_ ?_
                rotate_left
                · rintro w' ⟨s0, s1, s2, s3, s4, s5, s6, s7, s8⟩
                  go_simp
                  with_reducible rfl
                rotate_left
                · simp only [Act.put, List.setIfInBounds_toArray, List.set_cons_zero, List.set_cons_succ, i64_w, i32_w]
                  rfl
                refine one_ (i := 5) (N := some 26) #[true, true, true, true, true, true, true, true, true, true, true, false, true, true, true, true, true, false, false, false, false] rfl rfl (one_of HT_.out (by kernel_rfl)) (by decide) (fun K hK => ?_)
                refine goes_ Try.func24 (by kernel_rfl) rfl #[.int .i64 ((rd_T44 l0 x4_1).f0), .int .i64 3] (by rfl) rfl rfl (by (try simp only [List.map_toArray, List.map_cons, List.map_nil]); first | done | rfl | (simp only [List.length_drop, List.length_take]; rfl)) ?_
                with_reducible refine (semvcsmade2_Id.calls ((rd_T44 l0 x4_1).f0) 3 t164 _ A9.out).mono ?_
                rintro e w' ⟨rfl, ⟨nd, rfl⟩⟩
                refine ⟨_, rfl, ?_⟩
                refine hK.out _ _ ⟨((HB.out.cell (World.block_lt_of_cell? w _ hw163_0)).trans hw163_0), ((HB.out.cell (World.block_lt_of_cell? w _ hw163_1)).trans hw163_1), ((HB.out.cell (World.block_lt_of_cell? w _ hw163_2)).trans hw163_2), ((HB.out.cell (World.block_lt_of_cell? w _ hw165_0)).trans hw165_0), ((HB.out.cell (World.block_lt_of_cell? w _ hw165_1)).trans hw165_1), ((HB.out.cell (World.block_lt_of_cell? w _ hw165_2)).trans hw165_2), ((HB.out.cell (World.block_lt_of_cell? w _ hw167_0)).trans hw167_0), ((HB.out.cell (World.block_lt_of_cell? w _ hw167_1)).trans hw167_1), ((HB.out.cell (World.block_lt_of_cell? w _ hw167_2)).trans hw167_2)⟩ (fun hHeld => ?_)
                clear hK K
                refine norm_ (a' := ?_) ?_ ?_
                rotate_left
                · show Act.put _ (some 26) _ = _
                  simp only [Act.put, List.setIfInBounds_toArray, List.set_cons_zero, List.set_cons_succ, i64_w, i32_w]
                  rfl
                refine one_ (i := 11) (N := some 32) #[true, true, true, true, true, true, true, true, true, true, true, true, true, true, true, true, true, false, false, false, false] rfl rfl (one_of HT_.out (by kernel_rfl)) (by decide) (fun K hK => ?_)
                refine goes_ Try.func25 (by kernel_rfl) rfl #[.int .i64 ((rd_T44 l0 x4_1).f1)] (by rfl) rfl rfl (by (try simp only [List.map_toArray, List.map_cons, List.map_nil]); first | done | rfl | (simp only [List.length_drop, List.length_take]; rfl)) ?_
                with_reducible refine (semvcsmade2_fields.calls ((rd_T44 l0 x4_1).f1) t166 _ A10.out).mono ?_
                rintro e w' ⟨rfl, ⟨nd, rfl⟩⟩
                refine ⟨_, rfl, ?_⟩
                refine hK.out _ _ ⟨((HB.out.cell (World.block_lt_of_cell? w _ hw163_0)).trans hw163_0), ((HB.out.cell (World.block_lt_of_cell? w _ hw163_1)).trans hw163_1), ((HB.out.cell (World.block_lt_of_cell? w _ hw163_2)).trans hw163_2), ((HB.out.cell (World.block_lt_of_cell? w _ hw165_0)).trans hw165_0), ((HB.out.cell (World.block_lt_of_cell? w _ hw165_1)).trans hw165_1), ((HB.out.cell (World.block_lt_of_cell? w _ hw165_2)).trans hw165_2), ((HB.out.cell (World.block_lt_of_cell? w _ hw167_0)).trans hw167_0), ((HB.out.cell (World.block_lt_of_cell? w _ hw167_1)).trans hw167_1), ((HB.out.cell (World.block_lt_of_cell? w _ hw167_2)).trans hw167_2)⟩ (fun hHeld => ?_)
                clear hK K
                refine norm_ (a' := ?_) ?_ ?_
                rotate_left
                · show Act.put _ (some 32) _ = _
                  simp only [Act.put, List.setIfInBounds_toArray, List.set_cons_zero, List.set_cons_succ, i64_w, i32_w]
                  rfl
                refine one_ (i := 17) (N := some 38) #[true, true, true, true, true, true, true, true, true, true, true, true, true, true, true, true, true, true, false, false, false] rfl rfl (one_of HT_.out (by kernel_rfl)) (by decide) (fun K hK => ?_)
                refine goes_ Try.func24 (by kernel_rfl) rfl #[.int .i64 ((rd_T44 l0 x4_1).f2), .int .i64 4] (by rfl) rfl rfl (by (try simp only [List.map_toArray, List.map_cons, List.map_nil]); first | done | rfl | (simp only [List.length_drop, List.length_take]; rfl)) ?_
                with_reducible refine (semvcsmade2_Id.calls ((rd_T44 l0 x4_1).f2) 4 t168 _ A11.out).mono ?_
                rintro e w' ⟨rfl, ⟨nd, rfl⟩⟩
                refine ⟨_, rfl, ?_⟩
                refine hK.out _ _ ⟨((HB.out.cell (World.block_lt_of_cell? w _ hw163_0)).trans hw163_0), ((HB.out.cell (World.block_lt_of_cell? w _ hw163_1)).trans hw163_1), ((HB.out.cell (World.block_lt_of_cell? w _ hw163_2)).trans hw163_2), ((HB.out.cell (World.block_lt_of_cell? w _ hw165_0)).trans hw165_0), ((HB.out.cell (World.block_lt_of_cell? w _ hw165_1)).trans hw165_1), ((HB.out.cell (World.block_lt_of_cell? w _ hw165_2)).trans hw165_2), ((HB.out.cell (World.block_lt_of_cell? w _ hw167_0)).trans hw167_0), ((HB.out.cell (World.block_lt_of_cell? w _ hw167_1)).trans hw167_1), ((HB.out.cell (World.block_lt_of_cell? w _ hw167_2)).trans hw167_2)⟩ (fun hHeld => ?_)
                clear hK K
                refine norm_ (a' := ?_) ?_ ?_
                rotate_left
                · show Act.put _ (some 38) _ = _
                  simp only [Act.put, List.setIfInBounds_toArray, List.set_cons_zero, List.set_cons_succ, i64_w, i32_w]
                  rfl
                refine pure_ (i := 18) (N := some 5) (v := ?_) (a' := ?_) #[true, true, true, true, true, true, true, true, true, true, true, true, true, true, true, true, true, true, true, false, false] rfl rfl (any_of HT_.out (by kernel_rfl)) (fun _ _ _ h => h) (Or.inl ⟨by rfl, ?_⟩) ?_ ?_
                rotate_left
                · intro w'
                  go_simp
                  with_reducible rfl
                rotate_left
                · simp only [Act.put, List.setIfInBounds_toArray, List.set_cons_zero, List.set_cons_succ, i64_w, i32_w]
                  rfl
                refine pure_ (i := 19) (N := some 6) (v := ?_) (a' := ?_) #[true, true, true, true, true, true, true, true, true, true, true, true, true, true, true, true, true, true, true, true, false] rfl rfl (any_of HT_.out (by kernel_rfl)) (fun _ _ _ h => h) (Or.inl ⟨by rfl, ?_⟩) ?_ ?_
                rotate_left
                · intro w'
                  go_simp
                  with_reducible rfl
                rotate_left
                · simp only [Act.put, List.setIfInBounds_toArray, List.set_cons_zero, List.set_cons_succ, i64_w, i32_w]
                  rfl
                refine pure_ (i := 20) (N := some 7) (v := ?_) (a' := ?_) #[true, true, true, true, true, true, true, true, true, true, true, true, true, true, true, true, true, true, true, true, true] rfl rfl (any_of HT_.out (by kernel_rfl)) (fun _ _ _ h => h) (Or.inl ⟨by rfl, ?_⟩) ?_ ?_
                rotate_left
                · intro w'
                  go_simp
                  with_reducible rfl
                rotate_left
                · simp only [Act.put, List.setIfInBounds_toArray, List.set_cons_zero, List.set_cons_succ, i64_w, i32_w]
                  rfl
                refine done_ (done_of HT_.out (by kernel_rfl)) ?_
                have hnb15 := NB162_161.out
                have hnc15 := NB161_162.out
                have hcz16_0 : w14.cell? ⟨gb162, 0, none⟩ = some (u163000) := (blk_cell BK162.out 0).trans rfl
                have hfz16_0 := blk_frozen BK162.out 0
                obtain ⟨Ao17, co17, eo17⟩ := Kd.N_slice HO_163000.out
                subst eo17
                go_upto_block 2 with (first | ((with_reducible refine gate_callee (f := 21) rfl ?_); refine goesL_ (some 42) rfl rfl Try.func21 (by kernel_rfl) rfl #[.agg #[.slice Ao17 x163000_1.length co17], .int .i64 t164, .int .i64 t166] rfl (by (try simp only [List.map_toArray, List.map_cons, List.map_nil]); first | done | rfl | (simp only [List.length_drop, List.length_take]; rfl)) ?_; (with_reducible refine (semvcsref25_Alts.calls kj3 (fun k_ => ((w.heap.size ≤ k_) ∧ (k_ ≠ gb161 ∧ k_ ≠ gb162))) _ _ x163000_1 t164 t166 t169 _ ?side1 A12.out).mono ?_); (case side1 => exact Kd.N_V (HO_163000.out)); rintro e w18 ⟨v170, rfl, ho0, hb⟩; refine ⟨_, rfl, ?_⟩; have n0_ := Aside0.mk (Kd.N_below (by (with_reducible repeat (first | apply Kd.N_alloc | apply Kd.N_drewN | apply Kd.N_drew)); exact HO_163000.out) hb); have n1_ := Aside0.mk (Kd.V_lower (Kd.V_mono (ok' := fun k_ => (w.heap.size ≤ k_) ∧ k_ ≠ gb161 ∧ k_ ≠ gb162) ho0 (fun k_ hk_ => ⟨Or.elim hk_ (fun hs_ => hs_.1) (fun hn_ => (Nat.le_trans (below_size (by repeat (first | (with_reducible first | exact HB.out | apply below_alloc | apply pw_below_drewN | apply below_drew1 | refine below_set ?_ GE161.out | refine below_set ?_ GE162.out) | exact HB.out))) hn_)), Or.elim hk_ (fun hs_ => hs_.2.1) (fun hn_ => (Kd.freshB (g := gb161) (o := .cells #[.slice none 0 0] 25 (0, 0)) (by (with_reducible repeat (first | refine blk_drewN ?_ _ | refine blk_drew ?_ | refine blk_alloc ?_ _)); exact BK161.out) k_ hn_)), Or.elim hk_ (fun hs_ => hs_.2.2) (fun hn_ => (Kd.freshB (g := gb162) (o := .cells #[.slice Ao17 x163000_1.length co17] 25 (0, 0)) (by (with_reducible repeat (first | refine blk_drewN ?_ _ | refine blk_drew ?_ | refine blk_alloc ?_ _)); exact BK162.out) k_ hn_))⟩)) (below_size (by repeat (first | (with_reducible first | exact HB.out | apply below_alloc | apply pw_below_drewN | apply below_drew1 | refine below_set ?_ GE161.out | refine below_set ?_ GE162.out) | exact HB.out)))); have n2_ := Aside0.mk (blk_below (g := gb161) (o := .cells #[.slice none 0 0] 25 (0, 0)) (by (with_reducible repeat (first | refine blk_drewN ?_ _ | refine blk_drew ?_ | refine blk_alloc ?_ _)); exact BK161.out) hb); have n3_ := Aside0.mk (blk_below (g := gb162) (o := .cells #[.slice Ao17 x163000_1.length co17] 25 (0, 0)) (by (with_reducible repeat (first | refine blk_drewN ?_ _ | refine blk_drew ?_ | refine blk_alloc ?_ _)); exact BK162.out) hb); have n4_ := Aside0.mk (below_step (by repeat (first | (with_reducible first | exact HB.out | apply below_alloc | apply pw_below_drewN | apply below_drew1 | refine below_set ?_ GE161.out | refine below_set ?_ GE162.out) | exact HB.out)) hb); clear HO_163000; clear BK161; clear BK162; clear HB; have HO_163000 := n0_; have HO171 := n1_; have BK161 := n2_; have BK162 := n3_; have HB := n4_; clear n0_ n1_ n2_ n3_ n4_; (try clear hb); (try clear hb2); (try clear hk); (try clear hi); (try clear ho0)))
                (try simp only [Act.put, List.setIfInBounds_toArray, List.set_cons_zero, List.set_cons_succ])
                go_cut [9] (fun v9 wc => ∃ (kq : Nat) (x9_12 : Int), v9 = .int .i64 x9_12 ∧ Aside0 (semvcsmade2_State.j3 kq l0 x4_1 t164 t166 t168 t169 x9_12 x163000_1 = some r) ∧ Aside0 (kq ≤ kj3) ∧ Aside0 (Kd.V k49 49 wc w.heap.size (fun k_ => (w.heap.size ≤ k_) ∧ k_ ≠ gb161 ∧ k_ ≠ gb162) v170 t169) ∧ Aside0 (Kd.N k53 53 wc w.heap.size (fun k_ => (w.heap.size ≤ k_) ∧ k_ ≠ gb161 ∧ k_ ≠ gb162) (.slice Ao17 x163000_1.length co17) x163000_1) ∧ Aside0 (wc.heap[gb161]? = some (.cells #[(.slice none 0 0)] 25 (0, 0))) ∧ Aside0 (wc.heap[gb162]? = some (.cells #[(.slice Ao17 x163000_1.length co17)] 25 (0, 0))) ∧ Aside0 (Below w.heap.size w wc))
                case first =>
                  have H := HC13.out
                  clear HC13
                  have H' := Aside0.mk H
                  clear H
                  go_wp2
                  go_loopg [9] kj3 (fun kq v9 w' => ∃ (x9_3 : Int), v9 = .int .i64 x9_3 ∧ Aside0 (semvcsmade2_State.l1 kq l0 x4_1 t164 t166 t168 t169 x9_3 x163000_1 = some r) ∧ Aside0 (kq ≤ kj3) ∧ Aside0 (Kd.V k49 49 w' w.heap.size (fun k_ => (w.heap.size ≤ k_) ∧ k_ ≠ gb161 ∧ k_ ≠ gb162) v170 t169) ∧ Aside0 (Kd.N k53 53 w' w.heap.size (fun k_ => (w.heap.size ≤ k_) ∧ k_ ≠ gb161 ∧ k_ ≠ gb162) (.slice Ao17 x163000_1.length co17) x163000_1) ∧ Aside0 (w'.heap[gb161]? = some (.cells #[(.slice none 0 0)] 25 (0, 0))) ∧ Aside0 (w'.heap[gb162]? = some (.cells #[(.slice Ao17 x163000_1.length co17)] 25 (0, 0))) ∧ Aside0 (Below w.heap.size w w'))
                  case atStart => exact ⟨(0), (by first | rfl | (simp; done) | (simp [*]; done)), H', ⟨Nat.le_refl _⟩, ⟨by (with_reducible repeat (first | apply Kd.V_alloc | apply Kd.V_drewN | apply Kd.V_drew)); exact HO171.out⟩, ⟨by (with_reducible repeat (first | apply Kd.N_alloc | apply Kd.N_drewN | apply Kd.N_drew)); exact HO_163000.out⟩, ⟨by (with_reducible repeat (first | refine blk_drewN ?_ _ | refine blk_drew ?_ | refine blk_alloc ?_ _)); exact BK161.out⟩, ⟨by (with_reducible repeat (first | refine blk_drewN ?_ _ | refine blk_drew ?_ | refine blk_alloc ?_ _)); exact BK162.out⟩, ⟨by repeat (first | (with_reducible first | exact HB.out | apply below_alloc | apply pw_below_drewN | apply below_drew1 | refine below_set ?_ GE161.out | refine below_set ?_ GE162.out) | exact HB.out)⟩⟩
                  case round =>
                    clear H'
                    try clear c1
                    try clear p1
                    try clear q1
                    try clear hx1
                    try clear c2
                    try clear p2
                    try clear c5
                    try clear c5b0
                    try clear c6
                    try clear c7
                    try clear c7b0
                    try clear c8
                    try clear c8b0
                    try clear c15
                    try clear p16
                    try clear q16
                    try clear hx16
                    try clear hcz16_0
                    try clear hfz16_0
                    try clear hx163_0
                    try clear hx163_1
                    try clear hx163_2
                    try clear hx165_0
                    try clear hx165_1
                    try clear hx165_2
                    try clear hx167_0
                    try clear hx167_1
                    try clear hx167_2
                    try clear p163
                    try clear p165
                    try clear p167
                    try clear p2
                    try clear q163
                    try clear q165
                    try clear q167
                    obtain ⟨x9_3, rfl, HA, HK3, HO_8, HO_163000, BK161, BK162, HB⟩ := hrel
                    cases gk with
                    | zero => exact absurd HA.out (by simp [semvcsmade2_State.l1])
                    | succ k3 =>
                      have H := HA.out
                      clear HA
                      simp only [semvcsmade2_State.l1] at H
                      by_cases c19 : x9_3 < (t169.length : Int)
                      · rw [if_pos c19] at H
                        have c19b0 : decide (x9_3 < (t169.length : Int)) = true := decide_eq_true c19
                        clear c19
                        (first | rw [c19b0] | (simp only [i64_w, i32_w]; rw [c19b0]) | rw [c19b1] | skip)
                        by_cases c20 : 0 ≤ x9_3
                        · rw [if_pos c20] at H
                          have c20b0 : decide (0 ≤ x9_3) = true := decide_eq_true c20
                          clear c20
                          by_cases c21 : ((rd_T49 t169 x9_3).f0) < t168
                          · rw [if_pos c21] at H
                            have c21b0 : decide (((rd_T49 t169 x9_3).f0) < t168) = true := decide_eq_true c21
                            clear c21
                            have H' := Aside0.mk H
                            clear H
                            obtain ⟨Ao22, co22, eo22⟩ := Kd.V_slice HO_8.out
                            subst eo22
                            have p172 : 0 ≤ (x9_3 : Int) := of_decide_eq_true (by first | (with_reducible assumption) | assumption)
                            have q172 : x9_3 < (t169.length : Int) := of_decide_eq_true (by first | (with_reducible assumption) | assumption)
                            obtain ⟨ad172, e172, hx172_0, hx172_1, hx172_2, hx172_3, hx172_4⟩ := at_T49 (Kd.V_reads' HO_8.out).2.2 x9_3 p172 q172
                            cases e172
                            replace p172 := eq_true p172
                            replace q172 := eq_true q172
                            go_wp2
                            go_roundg k3
                            case measure => have := HK1.out; have := HJ3.out; have := HK3.out; omega
                            case rel => exact ⟨(wrap64 (x9_3 + 1)), (by first | rfl | (simp; done) | (simp [*]; done)), H', ⟨by have := HK1.out; have := HJ3.out; have := HK3.out; omega⟩, ⟨by (with_reducible repeat (first | apply Kd.V_alloc | apply Kd.V_drewN | apply Kd.V_drew)); exact HO_8.out⟩, ⟨by (with_reducible repeat (first | apply Kd.N_alloc | apply Kd.N_drewN | apply Kd.N_drew)); exact HO_163000.out⟩, ⟨by (with_reducible repeat (first | refine blk_drewN ?_ _ | refine blk_drew ?_ | refine blk_alloc ?_ _)); exact BK161.out⟩, ⟨by (with_reducible repeat (first | refine blk_drewN ?_ _ | refine blk_drew ?_ | refine blk_alloc ?_ _)); exact BK162.out⟩, ⟨by repeat (first | (with_reducible first | exact HB.out | apply below_alloc | apply pw_below_drewN | apply below_drew1 | refine below_set ?_ GE161.out | refine below_set ?_ GE162.out) | exact HB.out)⟩⟩
                          · rw [if_neg c21] at H
                            have c21b0 : decide (((rd_T49 t169 x9_3).f0) < t168) = false := decide_eq_false c21
                            clear c21
                            have H' := Aside0.mk H
                            clear H
                            obtain ⟨Ao23, co23, eo23⟩ := Kd.V_slice HO_8.out
                            subst eo23
                            have p172 : 0 ≤ (x9_3 : Int) := of_decide_eq_true (by first | (with_reducible assumption) | assumption)
                            have q172 : x9_3 < (t169.length : Int) := of_decide_eq_true (by first | (with_reducible assumption) | assumption)
                            obtain ⟨ad172, e172, hx172_0, hx172_1, hx172_2, hx172_3, hx172_4⟩ := at_T49 (Kd.V_reads' HO_8.out).2.2 x9_3 p172 q172
                            cases e172
                            replace p172 := eq_true p172
                            replace q172 := eq_true q172
                            go_wp2
                            go_meet
                            case rel => exact ⟨_, (x9_3), (by first | rfl | (simp; done) | (simp [*]; done)), H', ⟨by have := HK1.out; have := HJ3.out; have := HK3.out; first | omega | exact Nat.le_refl _⟩, ⟨by (with_reducible repeat (first | apply Kd.V_alloc | apply Kd.V_drewN | apply Kd.V_drew)); exact HO_8.out⟩, ⟨by (with_reducible repeat (first | apply Kd.N_alloc | apply Kd.N_drewN | apply Kd.N_drew)); exact HO_163000.out⟩, ⟨by (with_reducible repeat (first | refine blk_drewN ?_ _ | refine blk_drew ?_ | refine blk_alloc ?_ _)); exact BK161.out⟩, ⟨by (with_reducible repeat (first | refine blk_drewN ?_ _ | refine blk_drew ?_ | refine blk_alloc ?_ _)); exact BK162.out⟩, ⟨by repeat (first | (with_reducible first | exact HB.out | apply below_alloc | apply pw_below_drewN | apply below_drew1 | refine below_set ?_ GE161.out | refine below_set ?_ GE162.out) | exact HB.out)⟩⟩
                        · rw [if_neg c20] at H
                          exact absurd H (by simp)
                      · rw [if_neg c19] at H
                        have c19b0 : decide (x9_3 < (t169.length : Int)) = false := decide_eq_false c19
                        clear c19
                        (first | rw [c19b0] | (simp only [i64_w, i32_w]; rw [c19b0]) | rw [c19b1] | skip)
                        have H' := Aside0.mk H
                        clear H
                        obtain ⟨Ao24, co24, eo24⟩ := Kd.V_slice HO_8.out
                        subst eo24
                        go_wp2
                        go_meet
                        case rel => exact ⟨_, (x9_3), (by first | rfl | (simp; done) | (simp [*]; done)), H', ⟨by have := HK1.out; have := HJ3.out; have := HK3.out; first | omega | exact Nat.le_refl _⟩, ⟨by (with_reducible repeat (first | apply Kd.V_alloc | apply Kd.V_drewN | apply Kd.V_drew)); exact HO_8.out⟩, ⟨by (with_reducible repeat (first | apply Kd.N_alloc | apply Kd.N_drewN | apply Kd.N_drew)); exact HO_163000.out⟩, ⟨by (with_reducible repeat (first | refine blk_drewN ?_ _ | refine blk_drew ?_ | refine blk_alloc ?_ _)); exact BK161.out⟩, ⟨by (with_reducible repeat (first | refine blk_drewN ?_ _ | refine blk_drew ?_ | refine blk_alloc ?_ _)); exact BK162.out⟩, ⟨by repeat (first | (with_reducible first | exact HB.out | apply below_alloc | apply pw_below_drewN | apply below_drew1 | refine below_set ?_ GE161.out | refine below_set ?_ GE162.out) | exact HB.out)⟩⟩
                case rest =>
                  clear HC13
                  try clear c1
                  try clear p1
                  try clear q1
                  try clear hx1
                  try clear c2
                  try clear p2
                  try clear c5
                  try clear c5b0
                  try clear c6
                  try clear p6
                  try clear c7
                  try clear c7b0
                  try clear c8
                  try clear c8b0
                  try clear c15
                  try clear p16
                  try clear q16
                  try clear hx16
                  try clear p17
                  try clear q17
                  try clear hx17
                  try clear c19
                  try clear c19b0
                  try clear c20
                  try clear c20b0
                  try clear c21
                  try clear c21b0
                  try clear c24
                  try clear hcz16_0
                  try clear hfz16_0
                  try clear hx163_0
                  try clear hx163_1
                  try clear hx163_2
                  try clear hx165_0
                  try clear hx165_1
                  try clear hx165_2
                  try clear hx167_0
                  try clear hx167_1
                  try clear hx167_2
                  try clear hx172_0
                  try clear hx172_1
                  try clear hx172_2
                  try clear hx172_3
                  try clear hx172_4
                  try clear p1
                  try clear p16
                  try clear p163
                  try clear p165
                  try clear p167
                  try clear p172
                  try clear p2
                  try clear q1
                  try clear q16
                  try clear q163
                  try clear q165
                  try clear q167
                  try clear q172
                  obtain ⟨kq, x9_12, rfl, HA, HJ12, HO_8, HO_163000, BK161, BK162, HB⟩ := hcut
                  cases kq with
                  | zero => exact absurd HA.out (by simp [semvcsmade2_State.j3])
                  | succ kj12 =>
                    have H := HA.out
                    clear HA
                    simp only [semvcsmade2_State.j3] at H
                    have HC25 := Aside0.mk H
                    clear H
                    go_upto_region 10 with (fail)
                    go_cut [70] (fun v70 wc => ∃ (kq : Nat) (x70_24 : Bool), v70 = .bool x70_24 ∧ Aside0 (semvcsmade2_State.j4 kq l0 x4_1 t164 t166 t168 t169 x9_12 x70_24 x163000_1 = some r) ∧ Aside0 (kq ≤ kj12) ∧ Aside0 (Kd.V k49 49 wc w.heap.size (fun k_ => (w.heap.size ≤ k_) ∧ k_ ≠ gb161 ∧ k_ ≠ gb162) v170 t169) ∧ Aside0 (Kd.N k53 53 wc w.heap.size (fun k_ => (w.heap.size ≤ k_) ∧ k_ ≠ gb161 ∧ k_ ≠ gb162) (.slice Ao17 x163000_1.length co17) x163000_1) ∧ Aside0 (wc.heap[gb161]? = some (.cells #[(.slice none 0 0)] 25 (0, 0))) ∧ Aside0 (wc.heap[gb162]? = some (.cells #[(.slice Ao17 x163000_1.length co17)] 25 (0, 0))) ∧ Aside0 (Below w.heap.size w wc))
                    case first =>
                      have H := HC25.out
                      clear HC25
                      by_cases c26 : x9_12 < (t169.length : Int)
                      · rw [if_pos c26] at H
                        have c26b0 : decide (x9_12 < (t169.length : Int)) = true := decide_eq_true c26
                        clear c26
                        (first | rw [c26b0] | (simp only [i64_w, i32_w]; rw [c26b0]) | rw [c26b1] | skip)
                        by_cases c27 : 0 ≤ x9_12
                        · rw [if_pos c27] at H
                          have c27b0 : decide (0 ≤ x9_12) = true := decide_eq_true c27
                          clear c27
                          have H' := Aside0.mk H
                          clear H
                          obtain ⟨Ao28, co28, eo28⟩ := Kd.V_slice HO_8.out
                          subst eo28
                          have p173 : 0 ≤ (x9_12 : Int) := of_decide_eq_true (by first | (with_reducible assumption) | assumption)
                          have q173 : x9_12 < (t169.length : Int) := of_decide_eq_true (by first | (with_reducible assumption) | assumption)
                          obtain ⟨ad173, e173, hx173_0, hx173_1, hx173_2, hx173_3, hx173_4⟩ := at_T49 (Kd.V_reads' HO_8.out).2.2 x9_12 p173 q173
                          cases e173
                          replace p173 := eq_true p173
                          replace q173 := eq_true q173
                          go_wp2
                          go_meet
                          case rel => exact ⟨_, ((((rd_T49 t169 x9_12).f0) == t168)), (by first | rfl | (simp; done) | (simp [*]; done)), H', ⟨by have := HK1.out; have := HJ3.out; have := HJ12.out; first | omega | exact Nat.le_refl _⟩, ⟨by (with_reducible repeat (first | apply Kd.V_alloc | apply Kd.V_drewN | apply Kd.V_drew)); exact HO_8.out⟩, ⟨by (with_reducible repeat (first | apply Kd.N_alloc | apply Kd.N_drewN | apply Kd.N_drew)); exact HO_163000.out⟩, ⟨by (with_reducible repeat (first | refine blk_drewN ?_ _ | refine blk_drew ?_ | refine blk_alloc ?_ _)); exact BK161.out⟩, ⟨by (with_reducible repeat (first | refine blk_drewN ?_ _ | refine blk_drew ?_ | refine blk_alloc ?_ _)); exact BK162.out⟩, ⟨by repeat (first | (with_reducible first | exact HB.out | apply below_alloc | apply pw_below_drewN | apply below_drew1 | refine below_set ?_ GE161.out | refine below_set ?_ GE162.out) | exact HB.out)⟩⟩
                        · rw [if_neg c27] at H
                          exact absurd H (by simp)
                      · rw [if_neg c26] at H
                        have c26b0 : decide (x9_12 < (t169.length : Int)) = false := decide_eq_false c26
                        clear c26
                        (first | rw [c26b0] | (simp only [i64_w, i32_w]; rw [c26b0]) | rw [c26b1] | skip)
                        have H' := Aside0.mk H
                        clear H
                        obtain ⟨Ao29, co29, eo29⟩ := Kd.V_slice HO_8.out
                        subst eo29
                        go_wp2
                        go_meet
                        case rel => exact ⟨_, (false), (by first | rfl | (simp; done) | (simp [*]; done)), H', ⟨by have := HK1.out; have := HJ3.out; have := HJ12.out; first | omega | exact Nat.le_refl _⟩, ⟨by (with_reducible repeat (first | apply Kd.V_alloc | apply Kd.V_drewN | apply Kd.V_drew)); exact HO_8.out⟩, ⟨by (with_reducible repeat (first | apply Kd.N_alloc | apply Kd.N_drewN | apply Kd.N_drew)); exact HO_163000.out⟩, ⟨by (with_reducible repeat (first | refine blk_drewN ?_ _ | refine blk_drew ?_ | refine blk_alloc ?_ _)); exact BK161.out⟩, ⟨by (with_reducible repeat (first | refine blk_drewN ?_ _ | refine blk_drew ?_ | refine blk_alloc ?_ _)); exact BK162.out⟩, ⟨by repeat (first | (with_reducible first | exact HB.out | apply below_alloc | apply pw_below_drewN | apply below_drew1 | refine below_set ?_ GE161.out | refine below_set ?_ GE162.out) | exact HB.out)⟩⟩
                    case rest =>
                      clear HC25
                      try clear c1
                      try clear p1
                      try clear q1
                      try clear hx1
                      try clear c2
                      try clear p2
                      try clear c5
                      try clear c5b0
                      try clear c6
                      try clear p6
                      try clear c7
                      try clear c7b0
                      try clear c8
                      try clear c8b0
                      try clear c15
                      try clear p16
                      try clear q16
                      try clear hx16
                      try clear p17
                      try clear q17
                      try clear hx17
                      try clear c19
                      try clear c19b0
                      try clear c20
                      try clear c20b0
                      try clear c21
                      try clear c21b0
                      try clear c24
                      try clear c25
                      try clear c26
                      try clear c26b0
                      try clear c27
                      try clear c27b0
                      try clear hcz16_0
                      try clear hfz16_0
                      try clear hx163_0
                      try clear hx163_1
                      try clear hx163_2
                      try clear hx165_0
                      try clear hx165_1
                      try clear hx165_2
                      try clear hx167_0
                      try clear hx167_1
                      try clear hx167_2
                      try clear hx172_0
                      try clear hx172_1
                      try clear hx172_2
                      try clear hx172_3
                      try clear hx172_4
                      try clear hx173_0
                      try clear hx173_1
                      try clear hx173_2
                      try clear hx173_3
                      try clear hx173_4
                      try clear p1
                      try clear p16
                      try clear p163
                      try clear p165
                      try clear p167
                      try clear p17
                      try clear p172
                      try clear p173
                      try clear p2
                      try clear p6
                      try clear q1
                      try clear q16
                      try clear q163
                      try clear q165
                      try clear q167
                      try clear q17
                      try clear q172
                      try clear q173
                      obtain ⟨kq, x70_24, rfl, HA, HJ24, HO_8, HO_163000, BK161, BK162, HB⟩ := hcut
                      cases kq with
                      | zero => exact absurd HA.out (by simp [semvcsmade2_State.j4])
                      | succ kj24 =>
                        have H := HA.out
                        clear HA
                        simp only [semvcsmade2_State.j4] at H
                        by_cases c30 : x70_24 = true
                        · subst c30
                          have H1 : (semvcsmade2_State.l0 kj24 l0 (wrap64 (x4_1 + 1)) x163000_1) = some r := by rw [if_pos rfl] at H; exact H
                          clear H
                          have H := H1
                          clear H1
                          have H' := Aside0.mk H
                          clear H
                          go_wp2
                          go_roundg kj24
                          case measure => have := HK1.out; have := HJ3.out; have := HJ12.out; have := HJ24.out; omega
                          case rel => exact ⟨(wrap64 (x4_1 + 1)), (x163000_1), (.slice Ao17 x163000_1.length co17), (by first | rfl | (simp; done) | (simp [*]; done)), H', ⟨by have := HK1.out; have := HJ3.out; have := HJ12.out; have := HJ24.out; omega⟩, ⟨by (with_reducible repeat (first | apply Kd.N_alloc | apply Kd.N_drewN | apply Kd.N_drew)); exact HO_163000.out⟩, ⟨by (with_reducible repeat (first | refine blk_drewN ?_ _ | refine blk_drew ?_ | refine blk_alloc ?_ _)); exact BK161.out⟩, ⟨by (with_reducible repeat (first | refine blk_drewN ?_ _ | refine blk_drew ?_ | refine blk_alloc ?_ _)); exact BK162.out⟩, ⟨by repeat (first | (with_reducible first | exact HB.out | apply below_alloc | apply pw_below_drewN | apply below_drew1 | refine below_set ?_ GE161.out | refine below_set ?_ GE162.out) | exact HB.out)⟩⟩
                        · replace c30 := Bool.eq_false_iff.mpr c30
                          subst c30
                          have H1 : ((some (([] : List (S49)) : List (S49))).bind fun y174 => (if 0 ≤ x9_12 then (if x9_12 ≤ (t169.length : Int) then ((some (t169.take (x9_12 : Int).toNat : List (S49))).bind fun y177 => (if y174.length + y177.length < 2932031007402 then ((some (y174 ++ y177 : List (S49))).bind fun y182 => ((semvcsmade2_Value.f t164 t166 t168).bind fun bt185 => (if y182.length < 2932031007402 then ((some (y182 ++ [(⟨t168, (⟨bt185.1, bt185.2.1, bt185.2.2.1, bt185.2.2.2⟩ : S47)⟩ : S49)] : List (S49))).bind fun y189 => ((some (t169.drop (x9_12 : Int).toNat : List (S49))).bind fun y192 => (if y189.length + y192.length < 2932031007402 then ((semvcsref25_Set.f kj24 x163000_1 t164 t166 (y189 ++ y192)).bind fun t200 => (semvcsmade2_State.l0 kj24 l0 (wrap64 (x4_1 + 1)) t200)) else (none)))) else (none)))) else (none))) else (none)) else (none))) = some r := by rw [if_neg (show ¬ (false = true) by decide)] at H; exact H
                          clear H
                          have H := H1
                          clear H1
                          obtain ⟨y174, hy174⟩ : ∃ y_ : List (S49), y_ = (([] : List (S49))) := ⟨_, rfl⟩
                          replace H : (if 0 ≤ x9_12 then (if x9_12 ≤ (t169.length : Int) then ((some (t169.take (x9_12 : Int).toNat : List (S49))).bind fun y177 => (if y174.length + y177.length < 2932031007402 then ((some (y174 ++ y177 : List (S49))).bind fun y182 => ((semvcsmade2_Value.f t164 t166 t168).bind fun bt185 => (if y182.length < 2932031007402 then ((some (y182 ++ [(⟨t168, (⟨bt185.1, bt185.2.1, bt185.2.2.1, bt185.2.2.2⟩ : S47)⟩ : S49)] : List (S49))).bind fun y189 => ((some (t169.drop (x9_12 : Int).toNat : List (S49))).bind fun y192 => (if y189.length + y192.length < 2932031007402 then ((semvcsref25_Set.f kj24 x163000_1 t164 t166 (y189 ++ y192)).bind fun t200 => (semvcsmade2_State.l0 kj24 l0 (wrap64 (x4_1 + 1)) t200)) else (none)))) else (none)))) else (none))) else (none)) else (none)) = some r := by first | (rw [hy174]; with_reducible exact H) | (have H2_ := (Option.bind_some _ _).symm.trans H; rw [hy174]; with_reducible exact H2_) | (have H2_ := (Option.bind_some _ _).symm.trans H; with_reducible exact H2_) | with_reducible exact H | (rw [hy174]; exact H) | exact H
                          have Ny174 := Aside0.mk hy174
                          clear hy174
                          by_cases c31 : 0 ≤ x9_12
                          · rw [if_pos c31] at H
                            have c31b0 := eq_true c31
                            have c31b1 : decide (0 ≤ x9_12) = true := decide_eq_true c31
                            clear c31
                            by_cases c32 : x9_12 ≤ (t169.length : Int)
                            · rw [if_pos c32] at H
                              have c32b0 := eq_true c32
                              have c32b1 : decide (x9_12 ≤ (t169.length : Int)) = true := decide_eq_true c32
                              clear c32
                              obtain ⟨y177, hy177⟩ : ∃ y_ : List (S49), y_ = (t169.take (x9_12 : Int).toNat) := ⟨_, rfl⟩
                              replace H : (if y174.length + y177.length < 2932031007402 then ((some (y174 ++ y177 : List (S49))).bind fun y182 => ((semvcsmade2_Value.f t164 t166 t168).bind fun bt185 => (if y182.length < 2932031007402 then ((some (y182 ++ [(⟨t168, (⟨bt185.1, bt185.2.1, bt185.2.2.1, bt185.2.2.2⟩ : S47)⟩ : S49)] : List (S49))).bind fun y189 => ((some (t169.drop (x9_12 : Int).toNat : List (S49))).bind fun y192 => (if y189.length + y192.length < 2932031007402 then ((semvcsref25_Set.f kj24 x163000_1 t164 t166 (y189 ++ y192)).bind fun t200 => (semvcsmade2_State.l0 kj24 l0 (wrap64 (x4_1 + 1)) t200)) else (none)))) else (none)))) else (none)) = some r := by first | (rw [hy177]; with_reducible exact H) | (have H2_ := (Option.bind_some _ _).symm.trans H; rw [hy177]; with_reducible exact H2_) | (have H2_ := (Option.bind_some _ _).symm.trans H; with_reducible exact H2_) | with_reducible exact H | (rw [hy177]; exact H) | exact H
                              have Ny177 := Aside0.mk hy177
                              clear hy177
                              by_cases c33 : y174.length + y177.length < 2932031007402
                              · rw [if_pos c33] at H
                                have LMc33 := Aside0.mk c33
                                clear c33
                                obtain ⟨y182, hy182⟩ : ∃ y_ : List (S49), y_ = (y174 ++ y177) := ⟨_, rfl⟩
                                replace H : ((semvcsmade2_Value.f t164 t166 t168).bind fun bt185 => (if y182.length < 2932031007402 then ((some (y182 ++ [(⟨t168, (⟨bt185.1, bt185.2.1, bt185.2.2.1, bt185.2.2.2⟩ : S47)⟩ : S49)] : List (S49))).bind fun y189 => ((some (t169.drop (x9_12 : Int).toNat : List (S49))).bind fun y192 => (if y189.length + y192.length < 2932031007402 then ((semvcsref25_Set.f kj24 x163000_1 t164 t166 (y189 ++ y192)).bind fun t200 => (semvcsmade2_State.l0 kj24 l0 (wrap64 (x4_1 + 1)) t200)) else (none)))) else (none))) = some r := by first | (rw [hy182]; with_reducible exact H) | (have H2_ := (Option.bind_some _ _).symm.trans H; rw [hy182]; with_reducible exact H2_) | (have H2_ := (Option.bind_some _ _).symm.trans H; with_reducible exact H2_) | with_reducible exact H | (rw [hy182]; exact H) | exact H
                                have Ny182 := Aside0.mk hy182
                                clear hy182
                                replace H := Option.bind_eq_some_iff.mp H
                                obtain ⟨⟨t185, t186, t187, t188⟩, A340, H⟩ := H
                                replace H : (if y182.length < 2932031007402 then ((some (y182 ++ [(⟨t168, (⟨t185, t186, t187, t188⟩ : S47)⟩ : S49)] : List (S49))).bind fun y189 => ((some (t169.drop (x9_12 : Int).toNat : List (S49))).bind fun y192 => (if y189.length + y192.length < 2932031007402 then ((semvcsref25_Set.f kj24 x163000_1 t164 t166 (y189 ++ y192)).bind fun t200 => (semvcsmade2_State.l0 kj24 l0 (wrap64 (x4_1 + 1)) t200)) else (none)))) else (none)) = some r := H
                                have A34 := Aside0.mk A340
                                clear A340
                                by_cases c35 : y182.length < 2932031007402
                                · rw [if_pos c35] at H
                                  have LMc35 := Aside0.mk c35
                                  clear c35
                                  obtain ⟨y189, hy189⟩ : ∃ y_ : List (S49), y_ = (y182 ++ [(⟨t168, (⟨t185, t186, t187, t188⟩ : S47)⟩ : S49)]) := ⟨_, rfl⟩
                                  replace H : ((some (t169.drop (x9_12 : Int).toNat : List (S49))).bind fun y192 => (if y189.length + y192.length < 2932031007402 then ((semvcsref25_Set.f kj24 x163000_1 t164 t166 (y189 ++ y192)).bind fun t200 => (semvcsmade2_State.l0 kj24 l0 (wrap64 (x4_1 + 1)) t200)) else (none))) = some r := by first | (rw [hy189]; with_reducible exact H) | (have H2_ := (Option.bind_some _ _).symm.trans H; rw [hy189]; with_reducible exact H2_) | (have H2_ := (Option.bind_some _ _).symm.trans H; with_reducible exact H2_) | with_reducible exact H | (rw [hy189]; exact H) | exact H
                                  have Ny189 := Aside0.mk hy189
                                  clear hy189
                                  have c36b0 := eq_true (of_decide_eq_true (by first | (with_reducible assumption) | assumption) : 0 ≤ x9_12)
                                  have c37b0 := eq_true (of_decide_eq_true (by first | (with_reducible assumption) | assumption) : x9_12 ≤ (t169.length : Int))
                                  obtain ⟨y192, hy192⟩ : ∃ y_ : List (S49), y_ = (t169.drop (x9_12 : Int).toNat) := ⟨_, rfl⟩
                                  replace H : (if y189.length + y192.length < 2932031007402 then ((semvcsref25_Set.f kj24 x163000_1 t164 t166 (y189 ++ y192)).bind fun t200 => (semvcsmade2_State.l0 kj24 l0 (wrap64 (x4_1 + 1)) t200)) else (none)) = some r := by first | (rw [hy192]; with_reducible exact H) | (have H2_ := (Option.bind_some _ _).symm.trans H; rw [hy192]; with_reducible exact H2_) | (have H2_ := (Option.bind_some _ _).symm.trans H; with_reducible exact H2_) | with_reducible exact H | (rw [hy192]; exact H) | exact H
                                  have Ny192 := Aside0.mk hy192
                                  clear hy192
                                  by_cases c38 : y189.length + y192.length < 2932031007402
                                  · rw [if_pos c38] at H
                                    have LMc38 := Aside0.mk c38
                                    clear c38
                                    obtain ⟨y197, hy197⟩ : ∃ y_ : List (S49), y_ = (y189 ++ y192) := ⟨_, rfl⟩
                                    replace H : ((semvcsref25_Set.f kj24 x163000_1 t164 t166 y197).bind fun t200 => (semvcsmade2_State.l0 kj24 l0 (wrap64 (x4_1 + 1)) t200)) = some r := by first | (rw [hy197]; with_reducible exact H) | (have H2_ := (Option.bind_some _ _).symm.trans H; rw [hy197]; with_reducible exact H2_) | (have H2_ := (Option.bind_some _ _).symm.trans H; with_reducible exact H2_) | with_reducible exact H | (rw [hy197]; exact H) | exact H
                                    have Ny197 := Aside0.mk hy197
                                    clear hy197
                                    replace H := Option.bind_eq_some_iff.mp H
                                    obtain ⟨t200, A390, H⟩ := H
                                    replace H : (semvcsmade2_State.l0 kj24 l0 (wrap64 (x4_1 + 1)) t200) = some r := H
                                    have A39 := Aside0.mk A390
                                    clear A390
                                    have H' := Aside0.mk H
                                    clear H
                                    try go_wp2_with (first | ((with_reducible refine gate_dst (N := 71) rfl ?_); refine Kd.R_lit k49 _ 49 ?hg (N := 71) ?hd (xs := ([] : List (S49))) (inner := []) (ok := fun _ => True) (okp := fun _ => True) ?hr ?hp (fun _ hk => hk) trivial (Below.refl _ _) (Nat.le_refl _) (by simp) ?_; (case hd => rfl); (case hg => rfl); (case hr => first | (go_simp; done) | (go_simp; rfl)); (case hp => exact (Reps.none _ _)); intro v175 w40 ho41 hb hg_ hnew_; clear hg_ hnew_; (first | rw [← Ny174.out] at ho41 | (simp only [Int.reduceToNat] at ho41; rw [← Ny174.out] at ho41)); have n0_ := Aside0.mk (Kd.V_elder' (by (with_reducible repeat (first | apply Kd.V_alloc | apply Kd.V_drewN | apply Kd.V_drew)); exact HO_8.out) (Kd.R_base ho41) hb); have n1_ := Aside0.mk (Kd.N_elder' (by (with_reducible repeat (first | apply Kd.N_alloc | apply Kd.N_drewN | apply Kd.N_drew)); exact HO_163000.out) (Kd.R_base ho41) hb); have n2_ := Aside0.mk (Kd.R_lower (Kd.R_newM (M := fun k_ => (w.heap.size ≤ k_)) ho41 (below_size (by repeat (first | (with_reducible first | exact HB.out | apply below_alloc | apply pw_below_drewN | apply below_drew1 | refine below_set ?_ GE161.out | refine below_set ?_ GE162.out) | exact HB.out))) (fun k_ h_ => h_)) (below_size (by repeat (first | (with_reducible first | exact HB.out | apply below_alloc | apply pw_below_drewN | apply below_drew1 | refine below_set ?_ GE161.out | refine below_set ?_ GE162.out) | exact HB.out)))); have n3_ := Aside0.mk (blk_below (g := gb161) (o := .cells #[.slice none 0 0] 25 (0, 0)) (by (with_reducible repeat (first | refine blk_drewN ?_ _ | refine blk_drew ?_ | refine blk_alloc ?_ _)); exact BK161.out) hb); have n4_ := Aside0.mk (blk_below (g := gb162) (o := .cells #[.slice Ao17 x163000_1.length co17] 25 (0, 0)) (by (with_reducible repeat (first | refine blk_drewN ?_ _ | refine blk_drew ?_ | refine blk_alloc ?_ _)); exact BK162.out) hb); have n5_ := Aside0.mk (below_step (by repeat (first | (with_reducible first | exact HB.out | apply below_alloc | apply pw_below_drewN | apply below_drew1 | refine below_set ?_ GE161.out | refine below_set ?_ GE162.out) | exact HB.out)) hb); clear HO_8; clear HO_163000; clear BK161; clear BK162; clear HB; have HO_8 := n0_; have HO_163000 := n1_; have HO176 := n2_; have BK161 := n3_; have BK162 := n4_; have HB := n5_; clear n0_ n1_ n2_ n3_ n4_ n5_; clear hb ho41; obtain ⟨Ao43, co43, eo43⟩ := Kd.V_slice HO_8.out; subst eo43; have q42 : (x9_12 : Int) ≤ ((t169.length : Int) : Int) := of_decide_eq_true (by first | (with_reducible assumption) | assumption); obtain ⟨i042, hi042, _, hsz42, _⟩ := info_parts info49; have hroom42 : t169.length ≤ co43 := (Kd.V_reads' HO_8.out).2.1; have hC42 : Kd.F k49 _ _ Ao43 t169.length t169 := (Kd.V_at (base := w.heap.size) HO_8.out).2.2; have hcut42 := cut_to (P := Try.prog) 37 49 .i64 Try.underlying37 hi042 Ao43 t169.length co43 x9_12 (of_decide_eq_true (by first | (with_reducible assumption) | assumption)) q42 hroom42; have hr42 := Kd.F_take (m := (x9_12 : Int).toNat) hC42 (by omega); have hy42 : y177.length = (x9_12 : Int).toNat := (by rw [Ny177.out, List.length_take]; omega); rw [← Ny177.out] at hr42; rw [← hy42] at hcut42; have HO181 := Aside0.mk (show Kd.V k49 49 _ w.heap.size _ (.slice Ao43 y177.length co43) y177 from Kd.V_mk (by omega) hr42); have HC181 := Aside0.mk (show y177.length ≤ co43 from by omega); clear hr42 hC42 hroom42 hi042 hsz42; have KY42 := Aside0.mk hy42; clear hy42; replace q42 := eq_true q42) | ((with_reducible refine gate_builtin (b := .append) (xs := #[.tmp 71, .tmp 74]) rfl ?_); at_builtin; refine Kd.R_append_rows k49 (w0 := w) w.heap.size rfl (.tmp 71) (.tmp 74) 37 49 (.agg #[(.int .i64 0), (.int .i64 0), (.bool false), (.string ⟨#[]⟩), (.int .i64 0)]) 48 rfl Try.underlying37 info49 rfl (by decide) (by omega) v175 y174 y177 _ _ _ (fun k_ => (w.heap.size ≤ k_)) (fun _ => False) rfl rfl ?aO ?aR (fun _ _ h => h) (fun _ h => h.elim) ?aF ?aB ?aS ?aL ?_; (case aR => repeat (first | exact (Kd.V_reads' HO181.out).2.2 | (with_reducible refine Kd.C_alloc ?_ _) | (with_reducible refine Kd.C_drewN ?_ _) | (with_reducible refine Kd.C_drew ?_))); (case aB => exact (by repeat (first | (with_reducible first | exact HB.out | apply below_alloc | apply pw_below_drewN | apply below_drew1 | refine below_set ?_ GE161.out | refine below_set ?_ GE162.out) | exact HB.out))); (case aF => exact (fun k_ hk => (Nat.le_trans (below_size (by repeat (first | (with_reducible first | exact HB.out | apply below_alloc | apply pw_below_drewN | apply below_drew1 | refine below_set ?_ GE161.out | refine below_set ?_ GE162.out) | exact HB.out))) hk))); (case aO => exact (by (with_reducible repeat (first | apply Kd.R_alloc | apply Kd.R_drewN | apply Kd.R_drew)); exact Kd.R_mono HO176.out (fun _ hk => hk.1))); (case aS => exact (below_size (by repeat (first | (with_reducible first | exact HB.out | apply below_alloc | apply pw_below_drewN | apply below_drew1 | refine below_set ?_ GE161.out | refine below_set ?_ GE162.out) | exact HB.out)))); (case aL => have := LMc33.out; omega); intro v183 w44 ho hb hg hat; rw [← Ny182.out] at ho; have n0_ := Aside0.mk (Kd.V_afterv (ok := (fun k_ => (w.heap.size ≤ k_) ∧ k_ ≠ gb161 ∧ k_ ≠ gb162)) (by (with_reducible repeat (first | apply Kd.V_alloc | apply Kd.V_drewN | apply Kd.V_drew)); exact HO_8.out) hg hat); have n1_ := Aside0.mk (Kd.N_afterv (ok := (fun k_ => (w.heap.size ≤ k_) ∧ k_ ≠ gb161 ∧ k_ ≠ gb162)) (by (with_reducible repeat (first | apply Kd.N_alloc | apply Kd.N_drewN | apply Kd.N_drew)); exact HO_163000.out) hg hat); have n2_ := Aside0.mk (blk_grown (g := gb161) (o := .cells #[.slice none 0 0] 25 (0, 0)) (by (with_reducible repeat (first | refine blk_drewN ?_ _ | refine blk_drew ?_ | refine blk_alloc ?_ _)); exact BK161.out) hg (Kd.R_ne HO176.out BK161.out (by decide))); have n3_ := Aside0.mk (blk_grown (g := gb162) (o := .cells #[.slice Ao17 x163000_1.length co17] 25 (0, 0)) (by (with_reducible repeat (first | refine blk_drewN ?_ _ | refine blk_drew ?_ | refine blk_alloc ?_ _)); exact BK162.out) hg (Kd.R_ne HO176.out BK162.out (by decide))); have n4_ := Aside0.mk (Kd.V_afterv (ok := (fun k_ => (w.heap.size ≤ k_) ∧ k_ ≠ gb161 ∧ k_ ≠ gb162)) (by (with_reducible repeat (first | apply Kd.V_alloc | apply Kd.V_drewN | apply Kd.V_drew)); exact HO181.out) hg hat); have n5_ := Aside0.mk (hb); have n6_ := Aside0.mk (ho); clear HO_8; clear HO_163000; clear BK161; clear BK162; clear HO181; clear HB; clear HO176; have HO_8 := n0_; have HO_163000 := n1_; have BK161 := n2_; have BK162 := n3_; have HO181 := n4_; have HB := n5_; have HO184 := n6_; clear n0_ n1_ n2_ n3_ n4_ n5_ n6_; clear ho hb hg hat) | ((with_reducible refine gate_callee (f := 26) rfl ?_); refine goesL_ (some 81) rfl rfl Try.func26 (by kernel_rfl) rfl #[.int .i64 t164, .int .i64 t166, .int .i64 t168] rfl (by (try simp only [List.map_toArray, List.map_cons, List.map_nil]); first | done | rfl | (simp only [List.length_drop, List.length_take]; rfl)) ?_; (with_reducible refine (semvcsmade2_Value.calls t164 t166 t168 t185 t186 t187 t188 _ A34.out).mono ?_); rintro e w45 ⟨rfl, hb⟩; refine ⟨_, rfl, ?_⟩; have n0_ := Aside0.mk (Kd.V_below (by (with_reducible repeat (first | apply Kd.V_alloc | apply Kd.V_drewN | apply Kd.V_drew)); exact HO_8.out) hb); have n1_ := Aside0.mk (Kd.N_below (by (with_reducible repeat (first | apply Kd.N_alloc | apply Kd.N_drewN | apply Kd.N_drew)); exact HO_163000.out) hb); have n2_ := Aside0.mk (Kd.V_below (by (with_reducible repeat (first | apply Kd.V_alloc | apply Kd.V_drewN | apply Kd.V_drew)); exact HO181.out) hb); have n3_ := Aside0.mk (Kd.R_below (by (with_reducible repeat (first | apply Kd.R_alloc | apply Kd.R_drewN | apply Kd.R_drew)); exact HO184.out) hb); have n4_ := Aside0.mk (blk_below (g := gb161) (o := .cells #[.slice none 0 0] 25 (0, 0)) (by (with_reducible repeat (first | refine blk_drewN ?_ _ | refine blk_drew ?_ | refine blk_alloc ?_ _)); exact BK161.out) hb); have n5_ := Aside0.mk (blk_below (g := gb162) (o := .cells #[.slice Ao17 x163000_1.length co17] 25 (0, 0)) (by (with_reducible repeat (first | refine blk_drewN ?_ _ | refine blk_drew ?_ | refine blk_alloc ?_ _)); exact BK162.out) hb); have n6_ := Aside0.mk (below_step (by repeat (first | (with_reducible first | exact HB.out | apply below_alloc | apply pw_below_drewN | apply below_drew1 | refine below_set ?_ GE161.out | refine below_set ?_ GE162.out) | exact HB.out)) hb); clear HO_8; clear HO_163000; clear HO181; clear HO184; clear BK161; clear BK162; clear HB; have HO_8 := n0_; have HO_163000 := n1_; have HO181 := n2_; have HO184 := n3_; have BK161 := n4_; have BK162 := n5_; have HB := n6_; clear n0_ n1_ n2_ n3_ n4_ n5_ n6_; (try clear hb); (try clear hb2); (try clear hk); (try clear hi)) | ((with_reducible refine gate_builtin (b := .append) (xs := #[.tmp 76, .tmp 83]) rfl ?_); at_builtin; refine Kd.R_append k49 (w0 := w) w.heap.size rfl (.tmp 76) (.tmp 83) 37 49 (.agg #[(.int .i64 0), (.int .i64 0), (.bool false), (.string ⟨#[]⟩), (.int .i64 0)]) 48 rfl Try.underlying37 info49 rfl (by decide) (by omega) v183 y182 (⟨t168, (⟨t185, t186, t187, t188⟩ : S47)⟩ : S49) [.int .i64 t168, .int .i64 t185, .bool t186, .string t187, .int .i64 t188] (fun k_ => (w.heap.size ≤ k_)) (fun _ => False) rfl rfl ?aP (fun _ hk => hk.elim) ?aF ?aO ?aB ?aS ?aL ?_; (case aP => exact k49_mkM _ _ _ (⟨t168, (⟨t185, t186, t187, t188⟩ : S47)⟩ : S49)); (case aB => exact (by repeat (first | (with_reducible first | exact HB.out | apply below_alloc | apply pw_below_drewN | apply below_drew1 | refine below_set ?_ GE161.out | refine below_set ?_ GE162.out) | exact HB.out))); (case aF => exact (fun k_ hk => (Nat.le_trans (below_size (by repeat (first | (with_reducible first | exact HB.out | apply below_alloc | apply pw_below_drewN | apply below_drew1 | refine below_set ?_ GE161.out | refine below_set ?_ GE162.out) | exact HB.out))) hk))); (case aO => exact (by (with_reducible repeat (first | apply Kd.R_alloc | apply Kd.R_drewN | apply Kd.R_drew)); exact HO184.out)); (case aS => exact (below_size (by repeat (first | (with_reducible first | exact HB.out | apply below_alloc | apply pw_below_drewN | apply below_drew1 | refine below_set ?_ GE161.out | refine below_set ?_ GE162.out) | exact HB.out)))); (case aL => have := LMc35.out; omega); intro v190 w46 ho hb hg hat; rw [← Ny189.out] at ho; have n0_ := Aside0.mk (Kd.V_afterv (ok := (fun k_ => (w.heap.size ≤ k_) ∧ k_ ≠ gb161 ∧ k_ ≠ gb162)) (by (with_reducible repeat (first | apply Kd.V_alloc | apply Kd.V_drewN | apply Kd.V_drew)); exact HO_8.out) hg hat); have n1_ := Aside0.mk (Kd.N_afterv (ok := (fun k_ => (w.heap.size ≤ k_) ∧ k_ ≠ gb161 ∧ k_ ≠ gb162)) (by (with_reducible repeat (first | apply Kd.N_alloc | apply Kd.N_drewN | apply Kd.N_drew)); exact HO_163000.out) hg hat); have n2_ := Aside0.mk (blk_grown (g := gb161) (o := .cells #[.slice none 0 0] 25 (0, 0)) (by (with_reducible repeat (first | refine blk_drewN ?_ _ | refine blk_drew ?_ | refine blk_alloc ?_ _)); exact BK161.out) hg (Kd.R_ne HO184.out BK161.out (by decide))); have n3_ := Aside0.mk (blk_grown (g := gb162) (o := .cells #[.slice Ao17 x163000_1.length co17] 25 (0, 0)) (by (with_reducible repeat (first | refine blk_drewN ?_ _ | refine blk_drew ?_ | refine blk_alloc ?_ _)); exact BK162.out) hg (Kd.R_ne HO184.out BK162.out (by decide))); have n4_ := Aside0.mk (Kd.V_afterv (ok := (fun k_ => (w.heap.size ≤ k_) ∧ k_ ≠ gb161 ∧ k_ ≠ gb162)) (by (with_reducible repeat (first | apply Kd.V_alloc | apply Kd.V_drewN | apply Kd.V_drew)); exact HO181.out) hg hat); have n5_ := Aside0.mk (hb); have n6_ := Aside0.mk (ho); clear HO_8; clear HO_163000; clear BK161; clear BK162; clear HO181; clear HB; clear HO184; have HO_8 := n0_; have HO_163000 := n1_; have BK161 := n2_; have BK162 := n3_; have HO181 := n4_; have HB := n5_; have HO191 := n6_; clear n0_ n1_ n2_ n3_ n4_ n5_ n6_; clear ho hb hg hat))
                                    have n0_ := Aside0.mk (Kd.V_drew HO_8.out)
                                    have n1_ := Aside0.mk (Kd.N_drew HO_163000.out)
                                    have n2_ := Aside0.mk (Kd.V_drew HO181.out)
                                    have n3_ := Aside0.mk (Kd.R_drew HO191.out)
                                    have n4_ := Aside0.mk (blk_drew BK161.out)
                                    have n5_ := Aside0.mk (blk_drew BK162.out)
                                    have n6_ := Aside0.mk (below_drew1 HB.out)
                                    clear HO_8
                                    clear HO_163000
                                    clear HO181
                                    clear HO191
                                    clear BK161
                                    clear BK162
                                    clear HB
                                    have HO_8 := n0_
                                    have HO_163000 := n1_
                                    have HO181 := n2_
                                    have HO191 := n3_
                                    have BK161 := n4_
                                    have BK162 := n5_
                                    have HB := n6_
                                    clear n0_ n1_ n2_ n3_ n4_ n5_ n6_
                                    have q48 : (x9_12 : Int) ≤ ((t169.length : Int) : Int) := of_decide_eq_true (by first | (with_reducible assumption) | assumption)
                                    obtain ⟨i048, hi048, _, hsz48, _⟩ := info_parts info49
                                    have hroom48 : t169.length ≤ co43 := (Kd.V_reads' HO_8.out).2.1
                                    have hC48 : Kd.F k49 _ _ Ao43 t169.length t169 := (Kd.V_at (base := w.heap.size) HO_8.out).2.2
                                    have q048 : (0 : Int) ≤ (x9_12 : Int) := of_decide_eq_true (by first | (with_reducible assumption) | assumption)
                                    have hcut48 := cut_from (P := Try.prog) 37 49 .i64 Try.underlying37 hi048 5 hsz48 Ao43 t169.length co43 x9_12 q048 q48
                                    have hr48 := Kd.F_cut (m := (x9_12 : Int).toNat) (c := co43) hC48 (by omega) hroom48
                                    obtain ⟨A48, hA48⟩ : ∃ A1, A1 = (if co43 = (x9_12 : Int).toNat then Ao43 else (Ao43 : Option Addr).map (·.add ((x9_12 : Int).toNat * 5))) := ⟨_, rfl⟩
                                    obtain ⟨c48, hc48⟩ : ∃ c1, c1 = co43 - (x9_12 : Int).toNat := ⟨_, rfl⟩
                                    have hy48 : y192.length = t169.length - (x9_12 : Int).toNat := (by rw [Ny192.out, List.length_drop] <;> omega)
                                    rw [show (t169).drop (x9_12 : Int).toNat = y192 from Ny192.out.symm] at hr48
                                    replace hr48 : Kd.F k49 _ _ A48 y192.length y192 := (by rw [hA48]; exact hr48)
                                    rw [← hy48, ← hA48, ← hc48] at hcut48
                                    have HO196 := Aside0.mk (show Kd.V k49 49 _ w.heap.size _ (.slice A48 y192.length c48) y192 from Kd.V_mk (by rw [hy48, hc48]; exact Nat.sub_le_sub_right hroom48 _) hr48)
                                    have HC196 := Aside0.mk (show y192.length ≤ c48 from by rw [hy48, hc48]; exact Nat.sub_le_sub_right hroom48 _)
                                    clear hr48 hC48 hroom48 hi048 hsz48 hc48
                                    have KY48 := Aside0.mk hy48
                                    have KA48 := Aside0.mk hA48
                                    clear hy48 hA48
                                    replace q48 := eq_true q48
                                    refine start_ (n := 10) (S := fun w' => w'.cell? ⟨gb162, 0, none⟩ = some (.slice Ao17 x163000_1.length co17)) (ds := [9]) #[false, false, false, false, false, false, false, false, false, false] (by kernel_rfl) rfl rfl ((blk_cell BK162.out 0).trans rfl) (fun hHeld => ?_); refine with_tabW semvcsmade2_State.tab13 semvcsmade2_State.bits13 (fun HT_ HW_ => ?_)
                                    generalize w46.drew = w47 at HO_8 HO_163000 HO181 HO191 BK161 BK162 HB HO196 hHeld ⊢
                                    refine pure_ (i := 1) (N := some 86) (v := ?_) (a' := ?_) #[false, true, false, false, false, false, false, false, false, false] rfl rfl (any_of HT_.out (by kernel_rfl)) (fun _ _ _ h => h) (Or.inl ⟨by rfl, ?_⟩) ?_ ?_
                                    rotate_left
                                    · intro w'
                                      go_simp
                                      with_reducible rfl
                                    rotate_left
                                    · simp only [Act.put, List.setIfInBounds_toArray, List.set_cons_zero, List.set_cons_succ, i64_w, i32_w]
                                      rfl
                                    refine pure_ (i := 2) (N := some 87) (v := ?_) (a' := ?_) #[false, true, true, false, false, false, false, false, false, false] rfl rfl (any_of HT_.out (by kernel_rfl)) (fun _ _ _ h => h) (Or.inl ⟨by rfl, ?_⟩) ?_ ?_
                                    rotate_left
                                    · intro w'
                                      go_simp
                                      with_reducible rfl
                                    rotate_left
                                    · simp only [Act.put, List.setIfInBounds_toArray, List.set_cons_zero, List.set_cons_succ, i64_w, i32_w]
                                      rfl
                                    refine pure_ (i := 3) (N := some 88) (v := ?_) (a' := ?_) #[false, true, true, true, false, false, false, false, false, false] rfl rfl (any_of HT_.out (by kernel_rfl)) (fun _ _ _ h => h) (Or.inl ⟨by rfl, ?_⟩) ?_ ?_
                                    rotate_left
                                    · intro w'
                                      go_simp
                                      with_reducible rfl
                                    rotate_left
                                    · simp only [Act.put, List.setIfInBounds_toArray, List.set_cons_zero, List.set_cons_succ, i64_w, i32_w]
                                      rfl
                                    refine pure_ (i := 4) (N := some 89) (v := ?_) (a' := ?_) #[false, true, true, true, true, false, false, false, false, false] rfl rfl (any_of HT_.out (by kernel_rfl)) (fun _ _ _ h => h) (Or.inl ⟨by rfl, ?_⟩) ?_ ?_
                                    rotate_left
                                    · intro w'
                                      go_simp
                                      with_reducible rfl
                                    rotate_left
                                    · simp only [Act.put, List.setIfInBounds_toArray, List.set_cons_zero, List.set_cons_succ, i64_w, i32_w]
                                      rfl
                                    refine pure_ (i := 5) (N := some 90) (v := ?_) (a' := ?_) #[false, true, true, true, true, true, false, false, false, false] rfl rfl (any_of HT_.out (by kernel_rfl)) (fun _ _ _ h => h) (Or.inl ⟨by rfl, ?_⟩) ?_ ?_
                                    rotate_left
                                    · intro w'
                                      go_simp
                                      with_reducible rfl
                                    rotate_left
                                    · simp only [Act.put, List.setIfInBounds_toArray, List.set_cons_zero, List.set_cons_succ, i64_w, i32_w]
                                      rfl
                                    refine pure_ (i := 6) (N := some 91) (v := ?_) (a' := ?_) #[false, true, true, true, true, true, true, false, false, false] rfl rfl (any_of HT_.out (by kernel_rfl)) (fun _ _ _ h => h) (Or.inl ⟨by rfl, ?_⟩) ?_ ?_
                                    rotate_left
                                    · intro w'
                                      go_simp
                                      with_reducible rfl
                                    rotate_left
                                    · simp only [Act.put, List.setIfInBounds_toArray, List.set_cons_zero, List.set_cons_succ, i64_w, i32_w]
                                      rfl
                                    refine take_ (i := 0) (N := some 85) (v := ?_) (a' := ?_) #[true, true, true, true, true, true, true, false, false, false] rfl rfl (take_ofW HT_.out HW_.out (by kernel_rfl)) (fun _ _ _ h => h) (Or.inl ⟨by rfl, ?_⟩) hHeld ?_ ?_
                                    rotate_left
                                    · intro w' s0
                                      go_simp
                                      with_reducible rfl
                                    rotate_left
                                    · simp only [Act.put, List.setIfInBounds_toArray, List.set_cons_zero, List.set_cons_succ, i64_w, i32_w]
                                      rfl
                                    refine one_ (i := 7) (N := some 92) #[true, true, true, true, true, true, true, true, false, false] rfl rfl (one_of HT_.out (by kernel_rfl)) (by decide) (fun K hK => ?_)
                                    refine Kd.R_append_rows_step k49 (w0 := w) w.heap.size (by rfl) (.tmp 88) (.tmp 91) 37 49 (.agg #[(.int .i64 0), (.int .i64 0), (.bool false), (.string ⟨#[]⟩), (.int .i64 0)]) 48 rfl Try.underlying37 info49 rfl (by decide) (by omega) v190 y189 y192 _ _ _ (fun k_ => (w.heap.size ≤ k_)) (fun _ => False) rfl rfl ?aO ?aR (fun _ _ h => h) (fun _ h => h.elim) ?aF ?aB ?aS ?aL ?_
                                    (case aR => repeat (first | exact (Kd.V_reads' HO196.out).2.2 | (with_reducible refine Kd.C_alloc ?_ _) | (with_reducible refine Kd.C_drewN ?_ _) | (with_reducible refine Kd.C_drew ?_)))
                                    (case aB => exact (by repeat (first | (with_reducible first | exact HB.out | apply below_alloc | apply pw_below_drewN | apply below_drew1 | refine below_set ?_ GE161.out | refine below_set ?_ GE162.out) | exact HB.out)))
                                    (case aF => exact (fun k_ hk => (Nat.le_trans (below_size (by repeat (first | (with_reducible first | exact HB.out | apply below_alloc | apply pw_below_drewN | apply below_drew1 | refine below_set ?_ GE161.out | refine below_set ?_ GE162.out) | exact HB.out))) hk)))
                                    (case aO => exact (by (with_reducible repeat (first | apply Kd.R_alloc | apply Kd.R_drewN | apply Kd.R_drew)); exact HO191.out))
                                    (case aS => exact (below_size (by repeat (first | (with_reducible first | exact HB.out | apply below_alloc | apply pw_below_drewN | apply below_drew1 | refine below_set ?_ GE161.out | refine below_set ?_ GE162.out) | exact HB.out))))
                                    (case aL => have := LMc38.out; omega)
                                    intro v198 w49 ho hb hg hat
                                    rw [← Ny197.out] at ho
                                    have n0_ := Aside0.mk (Kd.V_afterv (ok := (fun k_ => (w.heap.size ≤ k_) ∧ k_ ≠ gb161 ∧ k_ ≠ gb162)) (by (with_reducible repeat (first | apply Kd.V_alloc | apply Kd.V_drewN | apply Kd.V_drew)); exact HO_8.out) hg hat)
                                    have n1_ := Aside0.mk (Kd.N_afterv (ok := (fun k_ => (w.heap.size ≤ k_) ∧ k_ ≠ gb161 ∧ k_ ≠ gb162)) (by (with_reducible repeat (first | apply Kd.N_alloc | apply Kd.N_drewN | apply Kd.N_drew)); exact HO_163000.out) hg hat)
                                    have n2_ := Aside0.mk (blk_grown (g := gb161) (o := .cells #[.slice none 0 0] 25 (0, 0)) (by (with_reducible repeat (first | refine blk_drewN ?_ _ | refine blk_drew ?_ | refine blk_alloc ?_ _)); exact BK161.out) hg (Kd.R_ne HO191.out BK161.out (by decide)))
                                    have n3_ := Aside0.mk (blk_grown (g := gb162) (o := .cells #[.slice Ao17 x163000_1.length co17] 25 (0, 0)) (by (with_reducible repeat (first | refine blk_drewN ?_ _ | refine blk_drew ?_ | refine blk_alloc ?_ _)); exact BK162.out) hg (Kd.R_ne HO191.out BK162.out (by decide)))
                                    have n4_ := Aside0.mk (Kd.V_afterv (ok := (fun k_ => (w.heap.size ≤ k_) ∧ k_ ≠ gb161 ∧ k_ ≠ gb162)) (by (with_reducible repeat (first | apply Kd.V_alloc | apply Kd.V_drewN | apply Kd.V_drew)); exact HO181.out) hg hat)
                                    have n5_ := Aside0.mk (Kd.V_afterv (ok := (fun k_ => (w.heap.size ≤ k_) ∧ k_ ≠ gb161 ∧ k_ ≠ gb162)) (by (with_reducible repeat (first | apply Kd.V_alloc | apply Kd.V_drewN | apply Kd.V_drew)); exact HO196.out) hg hat)
                                    have n6_ := Aside0.mk (hb)
                                    have n7_ := Aside0.mk (ho)
                                    clear HO_8
                                    clear HO_163000
                                    clear BK161
                                    clear BK162
                                    clear HO181
                                    clear HO196
                                    clear HB
                                    clear HO191
                                    have HO_8 := n0_
                                    have HO_163000 := n1_
                                    have BK161 := n2_
                                    have BK162 := n3_
                                    have HO181 := n4_
                                    have HO196 := n5_
                                    have HB := n6_
                                    have HO199 := n7_
                                    clear n0_ n1_ n2_ n3_ n4_ n5_ n6_ n7_
                                    clear ho hb hg hat
                                    obtain ⟨Ao50, co50, eo50⟩ := Kd.R_slice HO199.out
                                    (first | subst eo50 | (injection eo50 with f1_ f2_ f3_; have f4_ := f1_.symm; have f5_ := f3_.symm; clear f1_ f2_ f3_; subst f4_; subst f5_))
                                    refine hK.out _ _ ((blk_cell BK162.out 0).trans rfl) (fun hHeld => ?_)
                                    clear hK K
                                    refine norm_ (a' := ?_) ?_ ?_
                                    rotate_left
                                    · show Act.put _ (some 92) _ = _
                                      simp only [Act.put, List.setIfInBounds_toArray, List.set_cons_zero, List.set_cons_succ, i64_w, i32_w]
                                      rfl
                                    refine one_ (i := 8) (N := some 93) #[true, true, true, true, true, true, true, true, true, false] rfl rfl (one_of HT_.out (by kernel_rfl)) (by decide) (fun K hK => ?_)
                                    refine goes_ Try.func27 (by kernel_rfl) rfl #[.agg #[.slice Ao17 x163000_1.length co17], .int .i64 t164, .int .i64 t166, .slice Ao50 y197.length co50] (by rfl) rfl rfl (by (try simp only [List.map_toArray, List.map_cons, List.map_nil]); first | done | rfl | (simp only [List.length_drop, List.length_take]; rfl)) ?_
                                    with_reducible refine (semvcsref25_Set.calls kj24 (fun k_ => (((w.heap.size ≤ k_) ∧ (k_ ≠ gb161 ∧ k_ ≠ gb162)) ∧ some k_ ≠ (.slice Ao50 y197.length co50 : Value).ownBlock)) _ _ x163000_1 t164 t166 (fun k_ => some k_ = (.slice Ao50 y197.length co50 : Value).ownBlock) _ _ y197 t200 _ ?side1 ?side2 A39.out).mono ?_
                                    (case side1 => exact Kd.N_V (HO_163000.out))
                                    (case side2 => exact Kd.R_V (Kd.R_tight rfl (Kd.R_types (Kd.R_types (Kd.R_apart' (HO199.out) (Kd.N_typed HO_163000.out) (by decide)) BK161.out (by decide)) BK162.out (by decide))))
                                    rintro e w51 ⟨v201, rfl, ho0, hb⟩
                                    refine ⟨_, rfl, ?_⟩
                                    have n0_ := Aside0.mk (Kd.V_elder' (by (with_reducible repeat (first | apply Kd.V_alloc | apply Kd.V_drewN | apply Kd.V_drew)); exact HO_8.out) (Kd.N_base ho0) hb)
                                    have n1_ := Aside0.mk (Kd.N_elder' (by (with_reducible repeat (first | apply Kd.N_alloc | apply Kd.N_drewN | apply Kd.N_drew)); exact HO_163000.out) (Kd.N_base ho0) hb)
                                    have n2_ := Aside0.mk (Kd.V_elder' (by (with_reducible repeat (first | apply Kd.V_alloc | apply Kd.V_drewN | apply Kd.V_drew)); exact HO181.out) (Kd.N_base ho0) hb)
                                    have n3_ := Aside0.mk (Kd.V_elder' (by (with_reducible repeat (first | apply Kd.V_alloc | apply Kd.V_drewN | apply Kd.V_drew)); exact HO196.out) (Kd.N_base ho0) hb)
                                    have n4_ := Aside0.mk (Kd.R_below (by (with_reducible repeat (first | apply Kd.R_alloc | apply Kd.R_drewN | apply Kd.R_drew)); exact HO199.out) hb)
                                    have n5_ := Aside0.mk (Kd.N_lower (Kd.N_mono (ok' := fun k_ => (w.heap.size ≤ k_) ∧ k_ ≠ gb161 ∧ k_ ≠ gb162) ho0 (fun k_ hk_ => ⟨Or.elim hk_ (fun hs_ => Or.elim hs_ (fun hs_ => hs_.1.1) (fun hs_ => ((Kd.R_types (Kd.R_types (Kd.R_apart' (HO199.out) (Kd.N_typed HO_163000.out) (by decide)) BK161.out (by decide)) BK162.out (by decide)).1 k_ hs_.symm).1.1.1)) (fun hn_ => (Nat.le_trans (below_size (by repeat (first | (with_reducible first | exact HB.out | apply below_alloc | apply pw_below_drewN | apply below_drew1 | refine below_set ?_ GE161.out | refine below_set ?_ GE162.out) | exact HB.out))) hn_)), Or.elim hk_ (fun hs_ => Or.elim hs_ (fun hs_ => hs_.1.2.1) (fun hs_ => ((Kd.R_types (Kd.R_types (Kd.R_apart' (HO199.out) (Kd.N_typed HO_163000.out) (by decide)) BK161.out (by decide)) BK162.out (by decide)).1 k_ hs_.symm).1.2)) (fun hn_ => (Kd.freshB (g := gb161) (o := .cells #[.slice none 0 0] 25 (0, 0)) (by (with_reducible repeat (first | refine blk_drewN ?_ _ | refine blk_drew ?_ | refine blk_alloc ?_ _)); exact BK161.out) k_ hn_)), Or.elim hk_ (fun hs_ => Or.elim hs_ (fun hs_ => hs_.1.2.2) (fun hs_ => ((Kd.R_types (Kd.R_types (Kd.R_apart' (HO199.out) (Kd.N_typed HO_163000.out) (by decide)) BK161.out (by decide)) BK162.out (by decide)).1 k_ hs_.symm).2)) (fun hn_ => (Kd.freshB (g := gb162) (o := .cells #[.slice Ao17 x163000_1.length co17] 25 (0, 0)) (by (with_reducible repeat (first | refine blk_drewN ?_ _ | refine blk_drew ?_ | refine blk_alloc ?_ _)); exact BK162.out) k_ hn_))⟩)) (below_size (by repeat (first | (with_reducible first | exact HB.out | apply below_alloc | apply pw_below_drewN | apply below_drew1 | refine below_set ?_ GE161.out | refine below_set ?_ GE162.out) | exact HB.out))))
                                    have n6_ := Aside0.mk (blk_below (g := gb161) (o := .cells #[.slice none 0 0] 25 (0, 0)) (by (with_reducible repeat (first | refine blk_drewN ?_ _ | refine blk_drew ?_ | refine blk_alloc ?_ _)); exact BK161.out) hb)
                                    have n7_ := Aside0.mk (blk_below (g := gb162) (o := .cells #[.slice Ao17 x163000_1.length co17] 25 (0, 0)) (by (with_reducible repeat (first | refine blk_drewN ?_ _ | refine blk_drew ?_ | refine blk_alloc ?_ _)); exact BK162.out) hb)
                                    have n8_ := Aside0.mk (below_step (by repeat (first | (with_reducible first | exact HB.out | apply below_alloc | apply pw_below_drewN | apply below_drew1 | refine below_set ?_ GE161.out | refine below_set ?_ GE162.out) | exact HB.out)) hb)
                                    clear HO_8
                                    clear HO_163000
                                    clear HO181
                                    clear HO196
                                    clear HO199
                                    clear BK161
                                    clear BK162
                                    clear HB
                                    have HO_8 := n0_
                                    have HO_163000 := n1_
                                    have HO181 := n2_
                                    have HO196 := n3_
                                    have HO199 := n4_
                                    have HO202 := n5_
                                    have BK161 := n6_
                                    have BK162 := n7_
                                    have HB := n8_
                                    clear n0_ n1_ n2_ n3_ n4_ n5_ n6_ n7_ n8_
                                    (try clear hb)
                                    (try clear hb2)
                                    (try clear hk)
                                    (try clear hi)
                                    (try clear ho0)
                                    obtain ⟨Ao52, co52, eo52⟩ := Kd.N_slice HO202.out
                                    (first | subst eo52 | (injection eo52 with f1_ f2_ f3_; have f4_ := f1_.symm; have f5_ := f3_.symm; clear f1_ f2_ f3_; subst f4_; subst f5_))
                                    refine hK.out _ _ ((blk_cell BK162.out 0).trans rfl) (fun hHeld => ?_)
                                    clear hK K
                                    refine norm_ (a' := ?_) ?_ ?_
                                    rotate_left
                                    · show Act.put _ (some 93) _ = _
                                      simp only [Act.put, List.setIfInBounds_toArray, List.set_cons_zero, List.set_cons_succ, i64_w, i32_w]
                                      rfl
                                    refine last_ (i := 9) (N := none) #[true, true, true, true, true, true, true, true, true, true] rfl rfl (one_of HT_.out (by kernel_rfl)) (by decide) (fun K hK => ?_)
                                    have hs53 : w51.cell? ⟨gb162, 0, none⟩ = some (.slice Ao17 x163000_1.length co17) := (blk_cell BK162.out 0).trans rfl
                                    have hfs53 := blk_frozen BK162.out 0
                                    have hns53_0 := NB161_162.out
                                    have hms53_0 := NB162_161.out
                                    refine skip_ (w1 := ?_) (by rfl) rfl ?_ ?_
                                    rotate_left
                                    · go_simp
                                      rfl
                                    refine hK.out _ _ ?_
                                    clear hK K
                                    refine done_ (done_of HT_.out (by kernel_rfl)) ?_
                                    try go_wp2
                                    go_roundg kj24
                                    case measure => have := HK1.out; have := HJ3.out; have := HJ12.out; have := HJ24.out; omega
                                    case rel => exact ⟨(wrap64 (x4_1 + 1)), (t200), (.slice Ao52 t200.length co52), (by first | rfl | (simp; done) | (simp [*]; done)), H', ⟨by have := HK1.out; have := HJ3.out; have := HJ12.out; have := HJ24.out; omega⟩, ⟨by (with_reducible repeat (first | apply Kd.N_alloc | apply Kd.N_drewN | apply Kd.N_drew)); exact Kd.N_mono (Kd.N_far (p := ⟨gb162, 0, none⟩) (Kd.N_mono HO202.out (fun k_ hk => (⟨hk, hk.2.2⟩ : _ ∧ k_ ≠ gb162))) (fun _ hk => hk.2) (.slice Ao52 t200.length co52)) (fun _ hk => ⟨hk.1.1, ⟨hk.1.2.1, hk.1.2.2⟩⟩)⟩, ⟨by (with_reducible repeat (first | refine blk_drewN ?_ _ | refine blk_drew ?_ | refine blk_alloc ?_ _)); refine blk_far ?_ NB161_162.out _; (with_reducible repeat (first | refine blk_drewN ?_ _ | refine blk_drew ?_ | refine blk_alloc ?_ _)); exact BK161.out⟩, ⟨by (with_reducible repeat (first | refine blk_drewN ?_ _ | refine blk_drew ?_ | refine blk_alloc ?_ _)); refine blk_put (cs := #[.slice Ao17 x163000_1.length co17]) ?_ 0 _ rfl; (with_reducible repeat (first | refine blk_drewN ?_ _ | refine blk_drew ?_ | refine blk_alloc ?_ _)); exact BK162.out⟩, ⟨by repeat (first | (with_reducible first | exact HB.out | apply below_alloc | apply pw_below_drewN | apply below_drew1 | refine below_set ?_ GE161.out | refine below_set ?_ GE162.out) | exact HB.out)⟩⟩
                                  · rw [if_neg c38] at H
                                    exact absurd H (by simp)
                                · rw [if_neg c35] at H
                                  exact absurd H (by simp)
                              · rw [if_neg c33] at H
                                exact absurd H (by simp)
                            · rw [if_neg c32] at H
                              exact absurd H (by simp)
                          · rw [if_neg c31] at H
                            exact absurd H (by simp)
              · rw [if_neg c8] at H
                exact absurd H (by simp)
            · rw [if_neg c7] at H
              exact absurd H (by simp)
          · replace c6 := Bool.eq_false_iff.mpr c6
            subst c6
            have H1 : (some x163000_1) = some r := by rw [if_neg (show ¬ (false = true) by decide)] at H; exact H
            clear H
            have H := H1
            clear H1
            obtain rfl := Option.some.inj H
            have hnb54 := NB162_161.out
            have hnc54 := NB161_162.out
            have hcz55_0 : wc.cell? ⟨gb162, 0, none⟩ = some (u163000) := (blk_cell BK162.out 0).trans rfl
            have hfz55_0 := blk_frozen BK162.out 0
            obtain ⟨Ao56, co56, eo56⟩ := Kd.N_slice HO_163000.out
            subst eo56
            have hcz57_0 : wc.cell? ⟨gb161, 0, none⟩ = some (.slice none 0 0) := (blk_cell BK161.out 0).trans rfl
            have hfz57_0 := blk_frozen BK161.out 0
            go_wp2
            refine bodyPost_ret (results_cell_row rfl _ _ gb161 25 #[.slice Ao56 x163000_1.length co56] (0, 0) _ rfl (by (with_reducible repeat (first | refine blk_drewN ?_ _ | refine blk_drew ?_ | refine blk_alloc ?_ _)); refine blk_put (cs := #[.slice none 0 0]) ?_ 0 _ rfl; (with_reducible repeat (first | refine blk_drewN ?_ _ | refine blk_drew ?_ | refine blk_alloc ?_ _)); exact BK161.out) Try.underlying25 rfl (by kernel_rfl)) rfl ?_
            exact ⟨_, by first | rfl | (simp [errW_none, errW_some] <;> rfl) | (simp [*, errW_none, errW_some] <;> rfl), by (with_reducible repeat (first | apply Kd.N_alloc | apply Kd.N_drewN | apply Kd.N_drew)); exact Kd.N_mono (Kd.N_far (p := ⟨gb161, 0, none⟩) (Kd.N_mono HO_163000.out (fun k_ hk => (⟨hk, hk.2.1⟩ : _ ∧ k_ ≠ gb161))) (fun _ hk => hk.2) (.slice Ao56 x163000_1.length co56)) (fun _ hk => hk.1.1), by repeat (first | (with_reducible first | exact HB.out | apply below_alloc | apply pw_below_drewN | apply below_drew1 | refine below_set ?_ GE161.out | refine below_set ?_ GE162.out) | exact HB.out)⟩

end Go.Proofs.Ytcecekmhikmkhaa.M
