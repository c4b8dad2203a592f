/- Made by a program of this session's own (a turned copy of the kit's printer); not trusted: Lean checks it. -/
import Derived.Test.YtcecekmhikmkhaaMx0
import Derived.Test.YtcecekmhikmkhaaMx3
namespace Go.Proofs.Ytcecekmhikmkhaa.M
open Go.RowKit Go.Proofs.YtcecekmhikmkhaaW.PrintWords Go.Proofs.YtcecekmhikmkhaaW.PrintLast Go.Proofs.YtcecekmhikmkhaaW.PrintMore
attribute [local go_sem] max2_int min2_int max_two min_two max_three min_three max_four min_four   -- for this text's walks alone
set_option linter.unusedVariables false
set_option linter.unusedSimpArgs false

/-! ### semvcsref25_Alts: function 21 -/
def semvcsref25_Alts.j0 : Nat → Int → Bool → List (S53) → Option ((List (S49)))
  | 0, _, _, _ => none
  | k + 1, x7, x36, x122000 => if x36 = true then (if 0 ≤ x7 then (if x7 < (x122000.length : Int) then (some ((rd_T53 x122000 x7).f2)) else (none)) else (none)) else (some ([] : List (S49)))
def semvcsref25_Alts.f (k : Nat) (l0_0 : List (S53)) (a1 : Int) (a2 : Int) : Option ((List (S49))) := (semvcsref25_place.f k l0_0 a1 a2).bind fun t122 => (if t122 < (l0_0.length : Int) then (if 0 ≤ t122 then (if ((rd_T53 l0_0 t122).f0) = a1 then (semvcsref25_Alts.j0 k t122 (((rd_T53 l0_0 t122).f1) == a2) l0_0) else (semvcsref25_Alts.j0 k t122 false l0_0)) else (none)) else (semvcsref25_Alts.j0 k t122 false l0_0))
theorem semvcsref25_Alts.mono_l : ∀ k, (∀ y0 y1 y2, LeO (semvcsref25_Alts.j0 k y0 y1 y2) (semvcsref25_Alts.j0 (k + 1) y0 y1 y2))
  | 0 => fun _ _ _ r h => by simp [semvcsref25_Alts.j0] at h
  | k + 1 => by
    have ih0 := semvcsref25_Alts.mono_l k
    · intro y0 y1 y2
      unfold semvcsref25_Alts.j0
      repeat' first
      | (with_reducible exact ih0 _ _ _)
      | (with_reducible exact semvcsref25_place.mono _ _ _ _)
      | (with_reducible exact LeO.refl _)
      | (with_reducible exact LeO.none _)
      | (with_reducible refine LeO.ite ?_ ?_)
      | (with_reducible refine LeO.bind ?_ (fun _ => ?_))
      | exact ih0 _ _ _
      | exact semvcsref25_place.mono _ _ _ _
      | exact LeO.none _
      | refine LeO.ite ?_ ?_
      | refine LeO.bind ?_ (fun _ => ?_)
theorem semvcsref25_Alts.mono : ∀ a0 a1 a2 k, LeO (semvcsref25_Alts.f k a0 a1 a2) (semvcsref25_Alts.f (k + 1) a0 a1 a2) := by
  intro a0 a1 a2 k
  have ih0 := semvcsref25_Alts.mono_l k
  unfold semvcsref25_Alts.f
  repeat' first
      | (with_reducible exact ih0 _ _ _)
      | (with_reducible exact semvcsref25_place.mono _ _ _ _)
      | (with_reducible exact LeO.refl _)
      | (with_reducible exact LeO.none _)
      | (with_reducible refine LeO.ite ?_ ?_)
      | (with_reducible refine LeO.bind ?_ (fun _ => ?_))
      | exact ih0 _ _ _
      | exact semvcsref25_place.mono _ _ _ _
      | exact LeO.none _
      | refine LeO.ite ?_ ?_
      | refine LeO.bind ?_ (fun _ => ?_)
set_option maxHeartbeats 8000000 in
set_option maxRecDepth 100000 in
theorem semvcsref25_Alts.calls (k : Nat) (P0_0_ : Nat → Prop) (A0_0 : Option Addr) (c0_0 : Nat) (l0_0 : List (S53)) (a1 : Int) (a2 : Int) (r : List (S49)) (w : World) (hs0_0 : Kd.V k53 53 w w.heap.size (fun k_ => P0_0_ k_) (.slice A0_0 l0_0.length c0_0) l0_0) (h : semvcsref25_Alts.f k l0_0 a1 a2 = some r) :
    Calls Try.prog 21 #[.agg #[.slice A0_0 l0_0.length c0_0], .int .i64 a1, .int .i64 a2] w fun e w' => ∃ v0_ : Value, e = .returned (v0_) ∧ Kd.V k49 49 w' w.heap.size (fun k_ => (P0_0_ k_ ∨ w.heap.size ≤ k_)) v0_ r ∧ Below w.heap.size w w' := by
  have hu25 := Try.underlying25
  have HO0_0 := Aside0.mk (show Kd.V k53 53 w w.heap.size (fun k_ => (P0_0_ k_ ∨ w.heap.size ≤ k_)) (.slice A0_0 l0_0.length c0_0) l0_0 from Kd.V_mono hs0_0 (fun k_ hk => .inl hk))
  have HB := Aside0.mk (Below.refl w.heap.size w)
  have H : ((semvcsref25_place.f k l0_0 a1 a2).bind fun t122 => (if t122 < (l0_0.length : Int) then (if 0 ≤ t122 then (if ((rd_T53 l0_0 t122).f0) = a1 then (semvcsref25_Alts.j0 k t122 (((rd_T53 l0_0 t122).f1) == a2) l0_0) else (semvcsref25_Alts.j0 k t122 false l0_0)) else (none)) else (semvcsref25_Alts.j0 k t122 false l0_0))) = some r := h
  clear h
  replace H := Option.bind_eq_some_iff.mp H
  obtain ⟨t122, A40, H⟩ := H
  replace H : (if t122 < (l0_0.length : Int) then (if 0 ≤ t122 then (if ((rd_T53 l0_0 t122).f0) = a1 then (semvcsref25_Alts.j0 k t122 (((rd_T53 l0_0 t122).f1) == a2) l0_0) else (semvcsref25_Alts.j0 k t122 false l0_0)) else (none)) else (semvcsref25_Alts.j0 k t122 false l0_0)) = some r := H
  have A4 := Aside0.mk A40
  clear A40
  have HC5 := Aside0.mk H
  clear H
  go_enter Try.func21, Try.ntmps21
  go_upto_region 2 with (first | ((with_reducible refine gate_dst (N := 3) rfl ?_); refine box_event ?hg (N := 3) ?hd (cs := #[.slice A0_0 l0_0.length c0_0]) (t := 25) ?hr ?_; (case hd => rfl); (case hg => rfl); (case hr => first | (go_simp; done) | (go_simp; rfl)); intro gb121 hg w6 hbox hb; have n0_ := Aside0.mk (Kd.V_below (Kd.V_elderB (by (with_reducible repeat (first | apply Kd.V_alloc | apply Kd.V_drewN | apply Kd.V_drew)); exact HO0_0.out) gb121 (Nat.le_of_eq hg.symm)) hb); have n1_ := Aside0.mk (below_step (by repeat (first | (with_reducible first | exact HB.out | apply below_alloc | apply pw_below_drewN | apply below_drew1) | exact HB.out)) hb); have n2_ := Aside0.mk (hbox); have n3_ := Aside0.mk ((by rw [hg]; exact (below_size (by repeat (first | (with_reducible first | exact HB.out | apply below_alloc | apply pw_below_drewN | apply below_drew1) | exact HB.out))) : w.heap.size ≤ gb121)); have n4_ := Aside0.mk ((by rw [hg]; exact (below_size (by repeat (first | (with_reducible first | exact HB.out | apply below_alloc | apply pw_below_drewN | apply below_drew1) | exact HB.out))) : w.heap.size ≤ gb121)); clear HO0_0; clear HB; have HO0_0 := n0_; have HB := n1_; have BK121 := n2_; have GW121 := n3_; have GE121 := n4_; clear n0_ n1_ n2_ n3_ n4_; clear hb hbox hg; have hcz7_0 : w6.cell? ⟨gb121, 0, none⟩ = some (.slice A0_0 l0_0.length c0_0) := (blk_cell BK121.out 0).trans rfl; have hfz7_0 := blk_frozen BK121.out 0) | ((with_reducible refine gate_callee (f := 42) rfl ?_); refine goesL_ (some 11) rfl rfl Try.func42 (by kernel_rfl) rfl #[.agg #[.slice A0_0 l0_0.length c0_0], .int .i64 a1, .int .i64 a2] rfl (by (try simp only [List.map_toArray, List.map_cons, List.map_nil]); first | done | rfl | (simp only [List.length_drop, List.length_take]; rfl)) ?_; (with_reducible refine (semvcsref25_place.calls k _ _ l0_0 a1 a2 t122 _ ?side1 ?side2 A4.out).mono ?_); (case side1 => repeat (first | exact (Kd.V_reads' HO0_0.out).2.2 | (with_reducible refine Kd.C_alloc ?_ _) | (with_reducible refine Kd.C_drewN ?_ _) | (with_reducible refine Kd.C_drew ?_))); (case side2 => exact (Kd.V_reads' HO0_0.out).2.1); rintro e w8 ⟨rfl, hb⟩; refine ⟨_, rfl, ?_⟩; have n0_ := Aside0.mk (Kd.V_below (by (with_reducible repeat (first | apply Kd.V_alloc | apply Kd.V_drewN | apply Kd.V_drew)); exact HO0_0.out) hb); have n1_ := Aside0.mk (blk_below (g := gb121) (o := .cells #[.slice A0_0 l0_0.length c0_0] 25 (0, 0)) (by (with_reducible repeat (first | refine blk_drewN ?_ _ | refine blk_drew ?_ | refine blk_alloc ?_ _)); exact BK121.out) hb); have n2_ := Aside0.mk (below_step (by repeat (first | (with_reducible first | exact HB.out | apply below_alloc | apply pw_below_drewN | apply below_drew1 | refine below_set ?_ GE121.out) | exact HB.out)) hb); clear HO0_0; clear BK121; clear HB; have HO0_0 := n0_; have BK121 := n1_; have HB := n2_; clear n0_ n1_ n2_; (try clear hb); (try clear hb2); (try clear hk); (try clear hi)))
  (try simp only [Act.put, List.setIfInBounds_toArray, List.set_cons_zero, List.set_cons_succ])
  go_cut [36] (fun v36 wc => ∃ (kq : Nat) (x36_4 : Bool), v36 = .bool x36_4 ∧ Aside0 (semvcsref25_Alts.j0 kq t122 x36_4 l0_0 = some r) ∧ Aside0 (kq ≤ k) ∧ Aside0 (Kd.V k53 53 wc w.heap.size (fun k_ => (P0_0_ k_ ∨ w.heap.size ≤ k_) ∧ k_ ≠ gb121) (.slice A0_0 l0_0.length c0_0) l0_0) ∧ Aside0 (wc.heap[gb121]? = some (.cells #[(.slice A0_0 l0_0.length c0_0)] 25 (0, 0))) ∧ Aside0 (Below w.heap.size w wc))
  case first =>
    have H := HC5.out
    clear HC5
    by_cases c9 : t122 < (l0_0.length : Int)
    · rw [if_pos c9] at H
      have c9b0 : decide (t122 < (l0_0.length : Int)) = true := decide_eq_true c9
      clear c9
      (first | rw [c9b0] | (simp only [i64_w, i32_w]; rw [c9b0]) | rw [c9b1] | skip)
      by_cases c10 : 0 ≤ t122
      · rw [if_pos c10] at H
        have c10b0 : decide (0 ≤ t122) = true := decide_eq_true c10
        clear c10
        by_cases c11 : ((rd_T53 l0_0 t122).f0) = a1
        · rw [if_pos c11] at H
          have c11b0 : (((rd_T53 l0_0 t122).f0) == a1) = true := beq_iff_eq.mpr c11
          have c11b1 : (((rd_T53 l0_0 t122).f0) != a1) = false := bne_eq_false_iff_eq.mpr c11
          clear c11
          have H' := Aside0.mk H
          clear H
          have hcz12_0 : w8.cell? ⟨gb121, 0, none⟩ = some (.slice A0_0 l0_0.length c0_0) := (blk_cell BK121.out 0).trans rfl
          have hfz12_0 := blk_frozen BK121.out 0
          have p123 : 0 ≤ (t122 : Int) := of_decide_eq_true (by first | (with_reducible assumption) | assumption)
          have q123 : t122 < (l0_0.length : Int) := of_decide_eq_true (by first | (with_reducible assumption) | assumption)
          obtain ⟨ad123, A123_2, c123_2, e123, hx123_0, hx123_1, hx123_2, hl123_2, hi123_2⟩ := at_T53 (Kd.V_reads' HO0_0.out).2.2 t122 p123 q123
          cases e123
          obtain ⟨ce123, hce123, hMe123, hcc123⟩ := Kd.V_get HO0_0.out z53 t122 p123 (by first | exact q123 | exact of_decide_eq_true (by first | (with_reducible assumption) | assumption) | (have e_ := (Kd.V_reads' HO0_0.out).1; omega))
          obtain ⟨ua123_2, uc123_2, rfl, ul123_2, ge123_2⟩ := k53_openF hMe123
          have hv123_2 := hcc123 2 _ rfl
          rw [add_field _ _ 2 (by omega)] at hv123_2
          replace hv123_2 := Option.some.inj (hv123_2.symm.trans hx123_2)
          injection hv123_2 with hva_ hvn_ hvc_
          rw [hva_] at ge123_2
          rw [hvc_] at ul123_2
          have HL123_2 := Aside0.mk (show Kd.V k49 49 _ w.heap.size _ _ ((rd_T53 l0_0 t122).f2) from Kd.V_mk ul123_2 ge123_2)
          clear hva_ hvn_ hvc_ ge123_2 ul123_2
          clear hcc123 hce123
          have HR123_2 := Aside0.mk hi123_2
          have HC123_2 := Aside0.mk hl123_2
          clear hi123_2 hl123_2
          replace p123 := eq_true p123
          replace q123 := eq_true q123
          have p124 : 0 ≤ (t122 : Int) := of_decide_eq_true (by first | (with_reducible assumption) | assumption)
          have q124 : t122 < (l0_0.length : Int) := of_decide_eq_true (by first | (with_reducible assumption) | assumption)
          obtain ⟨ad124, A124_2, c124_2, e124, hx124_0, hx124_1, hx124_2, hl124_2, hi124_2⟩ := at_T53 (Kd.V_reads' HO0_0.out).2.2 t122 p124 q124
          obtain rfl : ad123 = ad124 := (by injection e124)
          obtain ⟨ce124, hce124, hMe124, hcc124⟩ := Kd.V_get HO0_0.out z53 t122 p124 (by first | exact q124 | exact of_decide_eq_true (by first | (with_reducible assumption) | assumption) | (have e_ := (Kd.V_reads' HO0_0.out).1; omega))
          obtain ⟨ua124_2, uc124_2, rfl, ul124_2, ge124_2⟩ := k53_openF hMe124
          have hv124_2 := hcc124 2 _ rfl
          rw [add_field _ _ 2 (by omega)] at hv124_2
          replace hv124_2 := Option.some.inj (hv124_2.symm.trans hx124_2)
          injection hv124_2 with hva_ hvn_ hvc_
          rw [hva_] at ge124_2
          rw [hvc_] at ul124_2
          have HL124_2 := Aside0.mk (show Kd.V k49 49 _ w.heap.size _ _ ((rd_T53 l0_0 t122).f2) from Kd.V_mk ul124_2 ge124_2)
          clear hva_ hvn_ hvc_ ge124_2 ul124_2
          clear hcc124 hce124
          have HR124_2 := Aside0.mk hi124_2
          have HC124_2 := Aside0.mk hl124_2
          clear hi124_2 hl124_2
          replace p124 := eq_true p124
          replace q124 := eq_true q124
          have ea_ := Option.some.inj (hx123_2.symm.trans hx124_2)
          injection ea_ with ea_ en_ ec_
          subst ea_
          subst ec_
          clear en_
          go_wp2
          go_meet
          case rel => exact ⟨_, ((((rd_T53 l0_0 t122).f1) == a2)), (by first | rfl | (simp; done) | (simp [*]; done)), H', ⟨by first | omega | exact Nat.le_refl _⟩, ⟨by (with_reducible repeat (first | apply Kd.V_alloc | apply Kd.V_drewN | apply Kd.V_drew)); exact HO0_0.out⟩, ⟨by (with_reducible repeat (first | refine blk_drewN ?_ _ | refine blk_drew ?_ | refine blk_alloc ?_ _)); exact BK121.out⟩, ⟨by repeat (first | (with_reducible first | exact HB.out | apply below_alloc | apply pw_below_drewN | apply below_drew1 | refine below_set ?_ GE121.out) | exact HB.out)⟩⟩
        · rw [if_neg c11] at H
          have c11b0 : (((rd_T53 l0_0 t122).f0) == a1) = false := beq_eq_false_iff_ne.mpr c11
          have c11b1 : (((rd_T53 l0_0 t122).f0) != a1) = true := bne_iff_ne.mpr c11
          have H' := Aside0.mk H
          clear H
          have hcz13_0 : w8.cell? ⟨gb121, 0, none⟩ = some (.slice A0_0 l0_0.length c0_0) := (blk_cell BK121.out 0).trans rfl
          have hfz13_0 := blk_frozen BK121.out 0
          have p123 : 0 ≤ (t122 : Int) := of_decide_eq_true (by first | (with_reducible assumption) | assumption)
          have q123 : t122 < (l0_0.length : Int) := of_decide_eq_true (by first | (with_reducible assumption) | assumption)
          obtain ⟨ad123, A123_2, c123_2, e123, hx123_0, hx123_1, hx123_2, hl123_2, hi123_2⟩ := at_T53 (Kd.V_reads' HO0_0.out).2.2 t122 p123 q123
          cases e123
          obtain ⟨ce123, hce123, hMe123, hcc123⟩ := Kd.V_get HO0_0.out z53 t122 p123 (by first | exact q123 | exact of_decide_eq_true (by first | (with_reducible assumption) | assumption) | (have e_ := (Kd.V_reads' HO0_0.out).1; omega))
          obtain ⟨ua123_2, uc123_2, rfl, ul123_2, ge123_2⟩ := k53_openF hMe123
          have hv123_2 := hcc123 2 _ rfl
          rw [add_field _ _ 2 (by omega)] at hv123_2
          replace hv123_2 := Option.some.inj (hv123_2.symm.trans hx123_2)
          injection hv123_2 with hva_ hvn_ hvc_
          rw [hva_] at ge123_2
          rw [hvc_] at ul123_2
          have HL123_2 := Aside0.mk (show Kd.V k49 49 _ w.heap.size _ _ ((rd_T53 l0_0 t122).f2) from Kd.V_mk ul123_2 ge123_2)
          clear hva_ hvn_ hvc_ ge123_2 ul123_2
          clear hcc123 hce123
          have HR123_2 := Aside0.mk hi123_2
          have HC123_2 := Aside0.mk hl123_2
          clear hi123_2 hl123_2
          replace p123 := eq_true p123
          replace q123 := eq_true q123
          go_wp2
          go_meet
          case rel => exact ⟨_, (false), (by first | rfl | (simp; done) | (simp [*]; done)), H', ⟨by first | omega | exact Nat.le_refl _⟩, ⟨by (with_reducible repeat (first | apply Kd.V_alloc | apply Kd.V_drewN | apply Kd.V_drew)); exact HO0_0.out⟩, ⟨by (with_reducible repeat (first | refine blk_drewN ?_ _ | refine blk_drew ?_ | refine blk_alloc ?_ _)); exact BK121.out⟩, ⟨by repeat (first | (with_reducible first | exact HB.out | apply below_alloc | apply pw_below_drewN | apply below_drew1 | refine below_set ?_ GE121.out) | exact HB.out)⟩⟩
      · rw [if_neg c10] at H
        exact absurd H (by simp)
    · rw [if_neg c9] at H
      have c9b0 : decide (t122 < (l0_0.length : Int)) = false := decide_eq_false c9
      clear c9
      (first | rw [c9b0] | (simp only [i64_w, i32_w]; rw [c9b0]) | rw [c9b1] | skip)
      have H' := Aside0.mk H
      clear H
      have hcz14_0 : w8.cell? ⟨gb121, 0, none⟩ = some (.slice A0_0 l0_0.length c0_0) := (blk_cell BK121.out 0).trans rfl
      have hfz14_0 := blk_frozen BK121.out 0
      go_wp2
      go_meet
      case rel => exact ⟨_, (false), (by first | rfl | (simp; done) | (simp [*]; done)), H', ⟨by first | omega | exact Nat.le_refl _⟩, ⟨by (with_reducible repeat (first | apply Kd.V_alloc | apply Kd.V_drewN | apply Kd.V_drew)); exact HO0_0.out⟩, ⟨by (with_reducible repeat (first | refine blk_drewN ?_ _ | refine blk_drew ?_ | refine blk_alloc ?_ _)); exact BK121.out⟩, ⟨by repeat (first | (with_reducible first | exact HB.out | apply below_alloc | apply pw_below_drewN | apply below_drew1 | refine below_set ?_ GE121.out) | exact HB.out)⟩⟩
  case rest =>
    clear HC5
    try clear c1
    try clear p1
    try clear q1
    try clear hx1
    try clear c2
    try clear p2
    try clear c4
    try clear c9
    try clear c9b0
    try clear c10
    try clear c10b0
    try clear c11
    try clear c11b0
    try clear c11b1
    try clear c12
    try clear p12
    try clear q12
    try clear hx12
    try clear hcz12_0
    try clear hcz13_0
    try clear hcz14_0
    try clear hcz7_0
    try clear hfz12_0
    try clear hfz13_0
    try clear hfz14_0
    try clear hfz7_0
    try clear hx123_0
    try clear hx123_1
    try clear hx123_2
    try clear hx124_0
    try clear hx124_1
    try clear hx124_2
    try clear p123
    try clear p124
    try clear q123
    try clear q124
    obtain ⟨kq, x36_4, rfl, HA, HJ4, HO_122000, BK121, HB⟩ := hcut
    cases kq with
    | zero => exact absurd HA.out (by simp [semvcsref25_Alts.j0])
    | succ kj4 =>
      have H := HA.out
      clear HA
      simp only [semvcsref25_Alts.j0] at H
      by_cases c15 : x36_4 = true
      · subst c15
        have H1 : (if 0 ≤ t122 then (if t122 < (l0_0.length : Int) then (some ((rd_T53 l0_0 t122).f2)) else (none)) else (none)) = some r := by rw [if_pos rfl] at H; exact H
        clear H
        have H := H1
        clear H1
        by_cases c16 : 0 ≤ t122
        · rw [if_pos c16] at H
          have c16b0 : decide (0 ≤ t122) = true := decide_eq_true c16
          clear c16
          by_cases c17 : t122 < (l0_0.length : Int)
          · rw [if_pos c17] at H
            have c17b0 : decide (t122 < (l0_0.length : Int)) = true := decide_eq_true c17
            clear c17
            obtain rfl := Option.some.inj H
            have hcz18_0 : wc.cell? ⟨gb121, 0, none⟩ = some (.slice A0_0 l0_0.length c0_0) := (blk_cell BK121.out 0).trans rfl
            have hfz18_0 := blk_frozen BK121.out 0
            have p125 : 0 ≤ (t122 : Int) := of_decide_eq_true (by first | (with_reducible assumption) | assumption)
            have q125 : t122 < (l0_0.length : Int) := of_decide_eq_true (by first | (with_reducible assumption) | assumption)
            obtain ⟨ad125, A125_2, c125_2, e125, hx125_0, hx125_1, hx125_2, hl125_2, hi125_2⟩ := at_T53 (Kd.V_reads' HO_122000.out).2.2 t122 p125 q125
            cases e125
            obtain ⟨ce125, hce125, hMe125, hcc125⟩ := Kd.V_get HO_122000.out z53 t122 p125 (by first | exact q125 | exact of_decide_eq_true (by first | (with_reducible assumption) | assumption) | (have e_ := (Kd.V_reads' HO_122000.out).1; omega))
            obtain ⟨ua125_2, uc125_2, rfl, ul125_2, ge125_2⟩ := k53_openF hMe125
            have hv125_2 := hcc125 2 _ rfl
            rw [add_field _ _ 2 (by omega)] at hv125_2
            replace hv125_2 := Option.some.inj (hv125_2.symm.trans hx125_2)
            injection hv125_2 with hva_ hvn_ hvc_
            rw [hva_] at ge125_2
            rw [hvc_] at ul125_2
            have HL125_2 := Aside0.mk (show Kd.V k49 49 _ w.heap.size _ _ ((rd_T53 l0_0 t122).f2) from Kd.V_mk ul125_2 ge125_2)
            clear hva_ hvn_ hvc_ ge125_2 ul125_2
            clear hcc125 hce125
            have HR125_2 := Aside0.mk hi125_2
            have HC125_2 := Aside0.mk hl125_2
            clear hi125_2 hl125_2
            replace p125 := eq_true p125
            replace q125 := eq_true q125
            go_wp2
            go_ret
            exact ⟨_, by first | rfl | (simp [errW_none, errW_some] <;> rfl) | (simp [*, errW_none, errW_some] <;> rfl), by (with_reducible repeat (first | apply Kd.V_alloc | apply Kd.V_drewN | apply Kd.V_drew)); exact Kd.V_mono HL125_2.out (fun _ hk => hk.1), by repeat (first | (with_reducible first | exact HB.out | apply below_alloc | apply pw_below_drewN | apply below_drew1 | refine below_set ?_ GE121.out) | exact HB.out)⟩
          · rw [if_neg c17] at H
            exact absurd H (by simp)
        · rw [if_neg c16] at H
          exact absurd H (by simp)
      · replace c15 := Bool.eq_false_iff.mpr c15
        subst c15
        have H1 : (some ([] : List (S49))) = some r := by rw [if_neg (show ¬ (false = true) by decide)] at H; exact H
        clear H
        have H := H1
        clear H1
        obtain rfl := Option.some.inj H
        go_wp2
        go_ret
        exact ⟨.slice none 0 0, by first | rfl | (simp [errW_none, errW_some] <;> rfl) | (simp [*, errW_none, errW_some] <;> rfl), Kd.V_nil _ _ _ _ _, by repeat (first | (with_reducible first | exact HB.out | apply below_alloc | apply pw_below_drewN | apply below_drew1 | refine below_set ?_ GE121.out) | exact HB.out)⟩

/-! ### semvcsmade2_Mod: function 50 -/
def semvcsmade2_Mod.f (a0 : Int) (a1 : Int) : Option (Int) := if a1 < 1 then (some 0) else (if a1 = 0 then (none) else (some (Int.tmod (wrap64 ((Int.tmod a0 a1) + a1)) a1)))
set_option maxHeartbeats 8000000 in
set_option maxRecDepth 100000 in
theorem semvcsmade2_Mod.calls (a0 : Int) (a1 : Int) (r : Int) (w : World) (h : semvcsmade2_Mod.f a0 a1 = some r) :
    Calls Try.prog 50 #[.int .i64 a0, .int .i64 a1] w fun e w' => e = .returned (.int .i64 r) ∧ Drawn0 w w' := by
  have H : (if a1 < 1 then (some 0) else (if a1 = 0 then (none) else (some (Int.tmod (wrap64 ((Int.tmod a0 a1) + a1)) a1)))) = some r := h
  clear h
  by_cases c3 : a1 < 1
  · rw [if_pos c3] at H
    have c3b0 : decide (a1 < 1) = true := decide_eq_true c3
    clear c3
    obtain rfl := Option.some.inj H
    go_enter Try.func50, Try.ntmps50
    go_wp2
    go_ret
    exact ⟨by first | rfl | (simp; done) | (simp [*]; done), by repeat (first | exact Drawn0.refl _ | apply Drawn0.step)⟩
  · rw [if_neg c3] at H
    have c3b0 : decide (a1 < 1) = false := decide_eq_false c3
    clear c3
    by_cases c4 : a1 = 0
    · rw [if_pos c4] at H
      exact absurd H (by simp)
    · rw [if_neg c4] at H
      have c4b0 : (a1 == 0) = false := beq_eq_false_iff_ne.mpr c4
      have c4b1 : (a1 != 0) = true := bne_iff_ne.mpr c4
      obtain rfl := Option.some.inj H
      go_enter Try.func50, Try.ntmps50
      go_wp2
      go_ret
      exact ⟨by first | rfl | (simp; done) | (simp [*]; done), by repeat (first | exact Drawn0.refl _ | apply Drawn0.step)⟩

/-! ### semvcsmade2_Id: function 24 -/
def semvcsmade2_Id.f (a0 : Int) (a1 : Int) : Option (Int) := (semvcsmade2_Mod.f a0 3).bind fun t126 => ((semvcsmade2_Mod.f (wrap64 (Int.tdiv a0 3)) a1).bind fun t127 => (some (wrap64 ((wrap64 ((wrap64 ((wrap64 (1 + t126)) * 1048576)) + 1)) + t127))))
set_option maxHeartbeats 8000000 in
set_option maxRecDepth 100000 in
theorem semvcsmade2_Id.calls (a0 : Int) (a1 : Int) (r : Int) (w : World) (h : semvcsmade2_Id.f a0 a1 = some r) :
    Calls Try.prog 24 #[.int .i64 a0, .int .i64 a1] w fun e w' => e = .returned (.int .i64 r) ∧ Drawn0 w w' := by
  have H : ((semvcsmade2_Mod.f a0 3).bind fun t126 => ((semvcsmade2_Mod.f (wrap64 (Int.tdiv a0 3)) a1).bind fun t127 => (some (wrap64 ((wrap64 ((wrap64 ((wrap64 (1 + t126)) * 1048576)) + 1)) + t127))))) = some r := h
  clear h
  replace H := Option.bind_eq_some_iff.mp H
  obtain ⟨t126, A30, H⟩ := H
  replace H : ((semvcsmade2_Mod.f (wrap64 (Int.tdiv a0 3)) a1).bind fun t127 => (some (wrap64 ((wrap64 ((wrap64 ((wrap64 (1 + t126)) * 1048576)) + 1)) + t127)))) = some r := H
  have A3 := Aside0.mk A30
  clear A30
  replace H := Option.bind_eq_some_iff.mp H
  obtain ⟨t127, A40, H⟩ := H
  replace H : (some (wrap64 ((wrap64 ((wrap64 ((wrap64 (1 + t126)) * 1048576)) + 1)) + t127))) = some r := H
  have A4 := Aside0.mk A40
  clear A40
  obtain rfl := Option.some.inj H
  go_enter Try.func24, Try.ntmps24
  go_wp2_with (first | ((with_reducible refine gate_callee (f := 50) rfl ?_); refine goesL_ (some 6) rfl rfl Try.func50 (by kernel_rfl) rfl #[.int .i64 a0, .int .i64 3] rfl (by (try simp only [List.map_toArray, List.map_cons, List.map_nil]); first | done | rfl | (simp only [List.length_drop, List.length_take]; rfl)) ?_; (with_reducible refine (semvcsmade2_Mod.calls a0 3 t126 _ A3.out).mono ?_); rintro e w' ⟨rfl, ⟨nd, rfl⟩⟩; refine ⟨_, rfl, ?_⟩) | ((with_reducible refine gate_callee (f := 50) rfl ?_); refine goesL_ (some 13) rfl rfl Try.func50 (by kernel_rfl) rfl #[.int .i64 (wrap64 (Int.tdiv a0 3)), .int .i64 a1] rfl (by (try simp only [List.map_toArray, List.map_cons, List.map_nil]); first | done | rfl | (simp only [List.length_drop, List.length_take]; rfl)) ?_; (with_reducible refine (semvcsmade2_Mod.calls (wrap64 (Int.tdiv a0 3)) a1 t127 _ A4.out).mono ?_); rintro e w' ⟨rfl, ⟨nd, rfl⟩⟩; refine ⟨_, rfl, ?_⟩))
  go_ret
  exact ⟨by first | rfl | (simp; done) | (simp [*]; done), by repeat (first | exact Drawn0.refl _ | apply Drawn0.step)⟩

/-! ### semvcsmade2_fields: function 25 -/
def semvcsmade2_fields.f (a0 : Int) : Option (Int) := (semvcsmade2_Mod.f a0 5).bind fun t128 => (if t128 = 0 then (some 1) else (if t128 = 1 then (some 2) else (if t128 = 2 then (some 3) else (if t128 = 3 then (some 4) else ((semvcsmade2_Mod.f (wrap64 (Int.tdiv a0 5)) 3).bind fun t129 => (some (wrap64 (8 + t129))))))))
set_option maxHeartbeats 8000000 in
set_option maxRecDepth 100000 in
theorem semvcsmade2_fields.calls (a0 : Int) (r : Int) (w : World) (h : semvcsmade2_fields.f a0 = some r) :
    Calls Try.prog 25 #[.int .i64 a0] w fun e w' => e = .returned (.int .i64 r) ∧ Drawn0 w w' := by
  have H : ((semvcsmade2_Mod.f a0 5).bind fun t128 => (if t128 = 0 then (some 1) else (if t128 = 1 then (some 2) else (if t128 = 2 then (some 3) else (if t128 = 3 then (some 4) else ((semvcsmade2_Mod.f (wrap64 (Int.tdiv a0 5)) 3).bind fun t129 => (some (wrap64 (8 + t129))))))))) = some r := h
  clear h
  replace H := Option.bind_eq_some_iff.mp H
  obtain ⟨t128, A20, H⟩ := H
  replace H : (if t128 = 0 then (some 1) else (if t128 = 1 then (some 2) else (if t128 = 2 then (some 3) else (if t128 = 3 then (some 4) else ((semvcsmade2_Mod.f (wrap64 (Int.tdiv a0 5)) 3).bind fun t129 => (some (wrap64 (8 + t129)))))))) = some r := H
  have A2 := Aside0.mk A20
  clear A20
  by_cases c3 : t128 = 0
  · rw [if_pos c3] at H
    have c3b0 : (t128 == 0) = true := beq_iff_eq.mpr c3
    have c3b1 : (t128 != 0) = false := bne_eq_false_iff_eq.mpr c3
    clear c3
    obtain rfl := Option.some.inj H
    go_enter Try.func25, Try.ntmps25
    go_wp2_with (first | ((with_reducible refine gate_callee (f := 50) rfl ?_); refine goesL_ (some 4) rfl rfl Try.func50 (by kernel_rfl) rfl #[.int .i64 a0, .int .i64 5] rfl (by (try simp only [List.map_toArray, List.map_cons, List.map_nil]); first | done | rfl | (simp only [List.length_drop, List.length_take]; rfl)) ?_; (with_reducible refine (semvcsmade2_Mod.calls a0 5 t128 _ A2.out).mono ?_); rintro e w' ⟨rfl, ⟨nd, rfl⟩⟩; refine ⟨_, rfl, ?_⟩))
    go_ret
    exact ⟨by first | rfl | (simp; done) | (simp [*]; done), by repeat (first | exact Drawn0.refl _ | apply Drawn0.step)⟩
  · rw [if_neg c3] at H
    have c3b0 : (t128 == 0) = false := beq_eq_false_iff_ne.mpr c3
    have c3b1 : (t128 != 0) = true := bne_iff_ne.mpr c3
    by_cases c4 : t128 = 1
    · rw [if_pos c4] at H
      have c4b0 : (t128 == 1) = true := beq_iff_eq.mpr c4
      have c4b1 : (t128 != 1) = false := bne_eq_false_iff_eq.mpr c4
      clear c4
      obtain rfl := Option.some.inj H
      go_enter Try.func25, Try.ntmps25
      go_wp2_with (first | ((with_reducible refine gate_callee (f := 50) rfl ?_); refine goesL_ (some 4) rfl rfl Try.func50 (by kernel_rfl) rfl #[.int .i64 a0, .int .i64 5] rfl (by (try simp only [List.map_toArray, List.map_cons, List.map_nil]); first | done | rfl | (simp only [List.length_drop, List.length_take]; rfl)) ?_; (with_reducible refine (semvcsmade2_Mod.calls a0 5 t128 _ A2.out).mono ?_); rintro e w' ⟨rfl, ⟨nd, rfl⟩⟩; refine ⟨_, rfl, ?_⟩))
      go_ret
      exact ⟨by first | rfl | (simp; done) | (simp [*]; done), by repeat (first | exact Drawn0.refl _ | apply Drawn0.step)⟩
    · rw [if_neg c4] at H
      have c4b0 : (t128 == 1) = false := beq_eq_false_iff_ne.mpr c4
      have c4b1 : (t128 != 1) = true := bne_iff_ne.mpr c4
      by_cases c5 : t128 = 2
      · rw [if_pos c5] at H
        have c5b0 : (t128 == 2) = true := beq_iff_eq.mpr c5
        have c5b1 : (t128 != 2) = false := bne_eq_false_iff_eq.mpr c5
        clear c5
        obtain rfl := Option.some.inj H
        go_enter Try.func25, Try.ntmps25
        go_wp2_with (first | ((with_reducible refine gate_callee (f := 50) rfl ?_); refine goesL_ (some 4) rfl rfl Try.func50 (by kernel_rfl) rfl #[.int .i64 a0, .int .i64 5] rfl (by (try simp only [List.map_toArray, List.map_cons, List.map_nil]); first | done | rfl | (simp only [List.length_drop, List.length_take]; rfl)) ?_; (with_reducible refine (semvcsmade2_Mod.calls a0 5 t128 _ A2.out).mono ?_); rintro e w' ⟨rfl, ⟨nd, rfl⟩⟩; refine ⟨_, rfl, ?_⟩))
        go_ret
        exact ⟨by first | rfl | (simp; done) | (simp [*]; done), by repeat (first | exact Drawn0.refl _ | apply Drawn0.step)⟩
      · rw [if_neg c5] at H
        have c5b0 : (t128 == 2) = false := beq_eq_false_iff_ne.mpr c5
        have c5b1 : (t128 != 2) = true := bne_iff_ne.mpr c5
        by_cases c6 : t128 = 3
        · rw [if_pos c6] at H
          have c6b0 : (t128 == 3) = true := beq_iff_eq.mpr c6
          have c6b1 : (t128 != 3) = false := bne_eq_false_iff_eq.mpr c6
          clear c6
          obtain rfl := Option.some.inj H
          go_enter Try.func25, Try.ntmps25
          go_wp2_with (first | ((with_reducible refine gate_callee (f := 50) rfl ?_); refine goesL_ (some 4) rfl rfl Try.func50 (by kernel_rfl) rfl #[.int .i64 a0, .int .i64 5] rfl (by (try simp only [List.map_toArray, List.map_cons, List.map_nil]); first | done | rfl | (simp only [List.length_drop, List.length_take]; rfl)) ?_; (with_reducible refine (semvcsmade2_Mod.calls a0 5 t128 _ A2.out).mono ?_); rintro e w' ⟨rfl, ⟨nd, rfl⟩⟩; refine ⟨_, rfl, ?_⟩))
          go_ret
          exact ⟨by first | rfl | (simp; done) | (simp [*]; done), by repeat (first | exact Drawn0.refl _ | apply Drawn0.step)⟩
        · rw [if_neg c6] at H
          have c6b0 : (t128 == 3) = false := beq_eq_false_iff_ne.mpr c6
          have c6b1 : (t128 != 3) = true := bne_iff_ne.mpr c6
          replace H := Option.bind_eq_some_iff.mp H
          obtain ⟨t129, A70, H⟩ := H
          replace H : (some (wrap64 (8 + t129))) = some r := H
          have A7 := Aside0.mk A70
          clear A70
          obtain rfl := Option.some.inj H
          go_enter Try.func25, Try.ntmps25
          go_wp2_with (first | ((with_reducible refine gate_callee (f := 50) rfl ?_); refine goesL_ (some 4) rfl rfl Try.func50 (by kernel_rfl) rfl #[.int .i64 a0, .int .i64 5] rfl (by (try simp only [List.map_toArray, List.map_cons, List.map_nil]); first | done | rfl | (simp only [List.length_drop, List.length_take]; rfl)) ?_; (with_reducible refine (semvcsmade2_Mod.calls a0 5 t128 _ A2.out).mono ?_); rintro e w' ⟨rfl, ⟨nd, rfl⟩⟩; refine ⟨_, rfl, ?_⟩) | ((with_reducible refine gate_callee (f := 50) rfl ?_); refine goesL_ (some 15) rfl rfl Try.func50 (by kernel_rfl) rfl #[.int .i64 (wrap64 (Int.tdiv a0 5)), .int .i64 3] rfl (by (try simp only [List.map_toArray, List.map_cons, List.map_nil]); first | done | rfl | (simp only [List.length_drop, List.length_take]; rfl)) ?_; (with_reducible refine (semvcsmade2_Mod.calls (wrap64 (Int.tdiv a0 5)) 3 t129 _ A7.out).mono ?_); rintro e w' ⟨rfl, ⟨nd, rfl⟩⟩; refine ⟨_, rfl, ?_⟩))
          go_ret
          exact ⟨by first | rfl | (simp; done) | (simp [*]; done), by repeat (first | exact Drawn0.refl _ | apply Drawn0.step)⟩

/-! ### semvcsmade2_Value: function 26 -/
def semvcsmade2_Value.f (a0 : Int) (a1 : Int) (a2 : Int) : Option (Int × Bool × ByteArray × Int) := (semvcsmade2_Mod.f a2 4).bind fun t131 => ((semvcsmade2_Mod.f (wrap64 (a0 + a2)) 3).bind fun t132 => ((semvcsmade2_Mod.f (wrap64 (a1 * a2)) 2).bind fun t133 => (some (t131, (t132 == 0), (⟨#[]⟩ : ByteArray), wrap64 (t133 * a0)))))
set_option maxHeartbeats 8000000 in
set_option maxRecDepth 100000 in
theorem semvcsmade2_Value.calls (a0 : Int) (a1 : Int) (a2 : Int) (r1 : Int) (r2 : Bool) (r3 : ByteArray) (r4 : Int) (w : World) (h : semvcsmade2_Value.f a0 a1 a2 = some (r1, r2, r3, r4)) :
    Calls Try.prog 26 #[.int .i64 a0, .int .i64 a1, .int .i64 a2] w fun e w' => e = .returned (.agg #[.int .i64 r1, .bool r2, .string r3, .int .i64 r4]) ∧ Below w.heap.size w w' := by
  have hu47 := Try.underlying47
  have HB := Aside0.mk (Below.refl w.heap.size w)
  have H : ((semvcsmade2_Mod.f a2 4).bind fun t131 => ((semvcsmade2_Mod.f (wrap64 (a0 + a2)) 3).bind fun t132 => ((semvcsmade2_Mod.f (wrap64 (a1 * a2)) 2).bind fun t133 => (some (t131, (t132 == 0), (⟨#[]⟩ : ByteArray), wrap64 (t133 * a0)))))) = some (r1, r2, r3, r4) := h
  clear h
  replace H := Option.bind_eq_some_iff.mp H
  obtain ⟨t131, A40, H⟩ := H
  replace H : ((semvcsmade2_Mod.f (wrap64 (a0 + a2)) 3).bind fun t132 => ((semvcsmade2_Mod.f (wrap64 (a1 * a2)) 2).bind fun t133 => (some (t131, (t132 == 0), (⟨#[]⟩ : ByteArray), wrap64 (t133 * a0))))) = some (r1, r2, r3, r4) := H
  have A4 := Aside0.mk A40
  clear A40
  replace H := Option.bind_eq_some_iff.mp H
  obtain ⟨t132, A50, H⟩ := H
  replace H : ((semvcsmade2_Mod.f (wrap64 (a1 * a2)) 2).bind fun t133 => (some (t131, (t132 == 0), (⟨#[]⟩ : ByteArray), wrap64 (t133 * a0)))) = some (r1, r2, r3, r4) := H
  have A5 := Aside0.mk A50
  clear A50
  replace H := Option.bind_eq_some_iff.mp H
  obtain ⟨t133, A60, H⟩ := H
  replace H : (some (t131, (t132 == 0), (⟨#[]⟩ : ByteArray), wrap64 (t133 * a0))) = some (r1, r2, r3, r4) := H
  have A6 := Aside0.mk A60
  clear A60
  simp only [Option.some.injEq, Prod.mk.injEq] at H
  obtain ⟨rfl, rfl, rfl, rfl⟩ := H
  go_enter Try.func26, Try.ntmps26
  go_wp2_with (first | ((with_reducible refine gate_dst (N := 6) rfl ?_); refine box_event ?hg (N := 6) ?hd (cs := #[.int .i64 0, .bool false, .string (⟨#[]⟩ : ByteArray), .int .i64 0]) (t := 47) ?hr ?_; (case hd => rfl); (case hg => rfl); (case hr => first | (go_simp; done) | (go_simp; rfl)); intro gb130 hg w7 hbox hb; have n0_ := Aside0.mk (below_step (by repeat (first | (with_reducible first | exact HB.out | apply below_alloc | apply pw_below_drewN | apply below_drew1) | exact HB.out)) hb); have n1_ := Aside0.mk (hbox); have n2_ := Aside0.mk ((by rw [hg]; exact (below_size (by repeat (first | (with_reducible first | exact HB.out | apply below_alloc | apply pw_below_drewN | apply below_drew1) | exact HB.out))) : w.heap.size ≤ gb130)); have n3_ := Aside0.mk ((by rw [hg]; exact (below_size (by repeat (first | (with_reducible first | exact HB.out | apply below_alloc | apply pw_below_drewN | apply below_drew1) | exact HB.out))) : w.heap.size ≤ gb130)); clear HB; have HB := n0_; have BK130 := n1_; have GW130 := n2_; have GE130 := n3_; clear n0_ n1_ n2_ n3_; clear hb hbox hg) | ((with_reducible refine gate_callee (f := 50) rfl ?_); refine goesL_ (some 8) rfl rfl Try.func50 (by kernel_rfl) rfl #[.int .i64 a2, .int .i64 4] rfl (by (try simp only [List.map_toArray, List.map_cons, List.map_nil]); first | done | rfl | (simp only [List.length_drop, List.length_take]; rfl)) ?_; (with_reducible refine (semvcsmade2_Mod.calls a2 4 t131 _ A4.out).mono ?_); rintro e w' ⟨rfl, ⟨nd, rfl⟩⟩; refine ⟨_, rfl, ?_⟩; (try (rw [drewN_self w7]; generalize hq_ : World.drewN w7 _ = w7; have n0_ : Aside0 (w7.heap[gb130]? = some (.cells #[.int .i64 0, .bool false, .string (⟨#[]⟩ : ByteArray), .int .i64 0] 47 (0, 0))) := ⟨by rw [← hq_]; exact (by (with_reducible repeat (first | refine blk_drewN ?_ _ | refine blk_drew ?_ | refine blk_alloc ?_ _)); exact BK130.out)⟩; have n1_ : Aside0 (Below w.heap.size w w7) := ⟨by rw [← hq_]; exact (by repeat (first | (with_reducible first | exact HB.out | apply below_alloc | apply pw_below_drewN | apply below_drew1 | refine below_set ?_ GE130.out) | exact HB.out))⟩; clear BK130 HB hq_; have BK130 := n0_; have HB := n1_; clear n0_ n1_))) | ((with_reducible refine gate_callee (f := 50) rfl ?_); refine goesL_ (some 12) rfl rfl Try.func50 (by kernel_rfl) rfl #[.int .i64 (wrap64 (a0 + a2)), .int .i64 3] rfl (by (try simp only [List.map_toArray, List.map_cons, List.map_nil]); first | done | rfl | (simp only [List.length_drop, List.length_take]; rfl)) ?_; (with_reducible refine (semvcsmade2_Mod.calls (wrap64 (a0 + a2)) 3 t132 _ A5.out).mono ?_); rintro e w' ⟨rfl, ⟨nd, rfl⟩⟩; refine ⟨_, rfl, ?_⟩; (try (rw [drewN_self w7]; generalize hq_ : World.drewN w7 _ = w7; have n0_ : Aside0 (w7.heap[gb130]? = some (.cells #[.int .i64 0, .bool false, .string (⟨#[]⟩ : ByteArray), .int .i64 0] 47 (0, 0))) := ⟨by rw [← hq_]; exact (by (with_reducible repeat (first | refine blk_drewN ?_ _ | refine blk_drew ?_ | refine blk_alloc ?_ _)); exact BK130.out)⟩; have n1_ : Aside0 (Below w.heap.size w w7) := ⟨by rw [← hq_]; exact (by repeat (first | (with_reducible first | exact HB.out | apply below_alloc | apply pw_below_drewN | apply below_drew1 | refine below_set ?_ GE130.out) | exact HB.out))⟩; clear BK130 HB hq_; have BK130 := n0_; have HB := n1_; clear n0_ n1_))) | ((with_reducible refine gate_callee (f := 50) rfl ?_); refine goesL_ (some 17) rfl rfl Try.func50 (by kernel_rfl) rfl #[.int .i64 (wrap64 (a1 * a2)), .int .i64 2] rfl (by (try simp only [List.map_toArray, List.map_cons, List.map_nil]); first | done | rfl | (simp only [List.length_drop, List.length_take]; rfl)) ?_; (with_reducible refine (semvcsmade2_Mod.calls (wrap64 (a1 * a2)) 2 t133 _ A6.out).mono ?_); rintro e w' ⟨rfl, ⟨nd, rfl⟩⟩; refine ⟨_, rfl, ?_⟩; (try (rw [drewN_self w7]; generalize hq_ : World.drewN w7 _ = w7; have n0_ : Aside0 (w7.heap[gb130]? = some (.cells #[.int .i64 0, .bool false, .string (⟨#[]⟩ : ByteArray), .int .i64 0] 47 (0, 0))) := ⟨by rw [← hq_]; exact (by (with_reducible repeat (first | refine blk_drewN ?_ _ | refine blk_drew ?_ | refine blk_alloc ?_ _)); exact BK130.out)⟩; have n1_ : Aside0 (Below w.heap.size w w7) := ⟨by rw [← hq_]; exact (by repeat (first | (with_reducible first | exact HB.out | apply below_alloc | apply pw_below_drewN | apply below_drew1 | refine below_set ?_ GE130.out) | exact HB.out))⟩; clear BK130 HB hq_; have BK130 := n0_; have HB := n1_; clear n0_ n1_)); have hcz8_0 : w7.cell? ⟨gb130, 0, none⟩ = some (.int .i64 0) := (blk_cell BK130.out 0).trans rfl; have hcz8_1 : w7.cell? ⟨gb130, 1, none⟩ = some (.bool false) := (blk_cell BK130.out 1).trans rfl; have hcz8_2 : w7.cell? ⟨gb130, 2, none⟩ = some (.string (⟨#[]⟩ : ByteArray)) := (blk_cell BK130.out 2).trans rfl; have hcz8_3 : w7.cell? ⟨gb130, 3, none⟩ = some (.int .i64 0) := (blk_cell BK130.out 3).trans rfl; have hfz8_0 := blk_frozen BK130.out 0; have hfz8_1 := blk_frozen BK130.out 1; have hfz8_2 := blk_frozen BK130.out 2; have hfz8_3 := blk_frozen BK130.out 3))
  refine bodyPost_ret (results_cell_row rfl _ _ gb130 47 #[.int .i64 t131, .bool (t132 == 0), .string (⟨#[]⟩ : ByteArray), .int .i64 (wrap64 (t133 * a0))] (0, 0) _ rfl (by (with_reducible repeat (first | refine blk_drewN ?_ _ | refine blk_drew ?_ | refine blk_alloc ?_ _)); refine blk_put (cs := #[.int .i64 t131, .bool (t132 == 0), .string (⟨#[]⟩ : ByteArray), .int .i64 0]) ?_ 3 _ rfl; (with_reducible repeat (first | refine blk_drewN ?_ _ | refine blk_drew ?_ | refine blk_alloc ?_ _)); refine blk_put (cs := #[.int .i64 t131, .bool (t132 == 0), .string (⟨#[]⟩ : ByteArray), .int .i64 0]) ?_ 2 _ rfl; (with_reducible repeat (first | refine blk_drewN ?_ _ | refine blk_drew ?_ | refine blk_alloc ?_ _)); refine blk_put (cs := #[.int .i64 t131, .bool false, .string (⟨#[]⟩ : ByteArray), .int .i64 0]) ?_ 1 _ rfl; (with_reducible repeat (first | refine blk_drewN ?_ _ | refine blk_drew ?_ | refine blk_alloc ?_ _)); refine blk_put (cs := #[.int .i64 0, .bool false, .string (⟨#[]⟩ : ByteArray), .int .i64 0]) ?_ 0 _ rfl; (with_reducible repeat (first | refine blk_drewN ?_ _ | refine blk_drew ?_ | refine blk_alloc ?_ _)); exact BK130.out) Try.underlying47 rfl (by kernel_rfl)) rfl ?_
  exact ⟨by first | rfl | (simp [errW_none, errW_some] <;> rfl) | (simp [*, errW_none, errW_some] <;> rfl), by repeat (first | (with_reducible first | exact HB.out | apply below_alloc | apply pw_below_drewN | apply below_drew1 | refine below_set ?_ GE130.out) | exact HB.out)⟩

end Go.Proofs.Ytcecekmhikmkhaa.M
