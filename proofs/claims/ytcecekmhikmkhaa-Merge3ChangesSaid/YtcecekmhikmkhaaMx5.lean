/- Made by a program of this session's own (a turned copy of the kit's printer); not trusted: Lean checks it. -/
import Derived.Test.YtcecekmhikmkhaaMx0
import Derived.Test.YtcecekmhikmkhaaMx3
namespace Go.Proofs.Ytcecekmhikmkhaa.M
open Go.RowKit Go.Proofs.YtcecekmhikmkhaaW.PrintWords Go.Proofs.YtcecekmhikmkhaaW.PrintLast Go.Proofs.YtcecekmhikmkhaaW.PrintMore
attribute [local go_sem] max2_int min2_int max_two min_two max_three min_three max_four min_four   -- for this text's walks alone
set_option linter.unusedVariables false
set_option linter.unusedSimpArgs false

/-! ### semvcsref25_Set: function 27 -/
mutual
def semvcsref25_Set.j0 : Nat → Int → Int → Int → List (S53) → List (S53) → Option ((List (S53)))
  | 0, _, _, _, _, _ => none
  | k + 1, x1, x2, x9, x10, x135000 => if x9 < (x135000.length : Int) then (if 0 ≤ x9 then (if ((rd_T53 x135000 x9).f0) = x1 then (semvcsref25_Set.j1 k x9 x10 (((rd_T53 x135000 x9).f1) == x2) x135000) else (semvcsref25_Set.j1 k x9 x10 false x135000)) else (none)) else (semvcsref25_Set.j1 k x9 x10 false x135000)
def semvcsref25_Set.j1 : Nat → Int → List (S53) → Bool → List (S53) → Option ((List (S53)))
  | 0, _, _, _, _ => none
  | k + 1, x9, x10, x55, x135000 => if x55 = true then (semvcsref25_Set.j2 k (wrap64 (x9 + 1)) x10 x135000) else (semvcsref25_Set.j2 k x9 x10 x135000)
def semvcsref25_Set.j2 : Nat → Int → List (S53) → List (S53) → Option ((List (S53)))
  | 0, _, _, _ => none
  | k + 1, x9, x10, x135000 => if 0 ≤ x9 then (if x9 ≤ (x135000.length : Int) then ((some (x135000.drop (x9 : Int).toNat : List (S53))).bind fun y153 => (if x10.length + y153.length < 3518437208883 then (some (x10 ++ y153)) else (none))) else (none)) else (none)
end
def semvcsref25_Set.f (k : Nat) (l0_0 : List (S53)) (a1 : Int) (a2 : Int) (l3 : List (S49)) : Option ((List (S53))) := (semvcsref25_place.f k l0_0 a1 a2).bind fun t136 => ((some (([] : List (S53)) : List (S53))).bind fun y137 => (if 0 ≤ t136 then (if t136 ≤ (l0_0.length : Int) then ((some (l0_0.take (t136 : Int).toNat : List (S53))).bind fun y140 => (if y137.length + y140.length < 3518437208883 then ((some (y137 ++ y140 : List (S53))).bind fun y145 => (if (l3.length : Int) > 0 then (if y145.length < 3518437208883 then (semvcsref25_Set.j0 k a1 a2 t136 (y145 ++ [(⟨a1, a2, l3⟩ : S53)]) l0_0) else (none)) else (semvcsref25_Set.j0 k a1 a2 t136 y145 l0_0))) else (none))) else (none)) else (none)))
theorem semvcsref25_Set.mono_l : ∀ k, (∀ y0 y1 y2 y3 y4, LeO (semvcsref25_Set.j0 k y0 y1 y2 y3 y4) (semvcsref25_Set.j0 (k + 1) y0 y1 y2 y3 y4)) ∧ (∀ y0 y1 y2 y3, LeO (semvcsref25_Set.j1 k y0 y1 y2 y3) (semvcsref25_Set.j1 (k + 1) y0 y1 y2 y3)) ∧ (∀ y0 y1 y2, LeO (semvcsref25_Set.j2 k y0 y1 y2) (semvcsref25_Set.j2 (k + 1) y0 y1 y2))
  | 0 => ⟨fun _ _ _ _ _ r h => by simp [semvcsref25_Set.j0] at h, fun _ _ _ _ r h => by simp [semvcsref25_Set.j1] at h, fun _ _ _ r h => by simp [semvcsref25_Set.j2] at h⟩
  | k + 1 => by
    obtain ⟨ih0, ih1, ih2⟩ := semvcsref25_Set.mono_l k
    refine ⟨?_, ?_, ?_⟩
    · intro y0 y1 y2 y3 y4
      unfold semvcsref25_Set.j0
      repeat' first
      | (with_reducible exact ih0 _ _ _ _ _)
      | (with_reducible exact ih1 _ _ _ _)
      | (with_reducible exact ih2 _ _ _)
      | (with_reducible exact semvcsref25_place.mono _ _ _ _)
      | (with_reducible exact LeO.refl _)
      | (with_reducible exact LeO.none _)
      | (with_reducible refine LeO.ite ?_ ?_)
      | (with_reducible refine LeO.bind ?_ (fun _ => ?_))
      | exact ih0 _ _ _ _ _
      | exact ih1 _ _ _ _
      | exact ih2 _ _ _
      | exact semvcsref25_place.mono _ _ _ _
      | exact LeO.none _
      | refine LeO.ite ?_ ?_
      | refine LeO.bind ?_ (fun _ => ?_)
    · intro y0 y1 y2 y3
      unfold semvcsref25_Set.j1
      repeat' first
      | (with_reducible exact ih0 _ _ _ _ _)
      | (with_reducible exact ih1 _ _ _ _)
      | (with_reducible exact ih2 _ _ _)
      | (with_reducible exact semvcsref25_place.mono _ _ _ _)
      | (with_reducible exact LeO.refl _)
      | (with_reducible exact LeO.none _)
      | (with_reducible refine LeO.ite ?_ ?_)
      | (with_reducible refine LeO.bind ?_ (fun _ => ?_))
      | exact ih0 _ _ _ _ _
      | exact ih1 _ _ _ _
      | exact ih2 _ _ _
      | exact semvcsref25_place.mono _ _ _ _
      | exact LeO.none _
      | refine LeO.ite ?_ ?_
      | refine LeO.bind ?_ (fun _ => ?_)
    · intro y0 y1 y2
      unfold semvcsref25_Set.j2
      repeat' first
      | (with_reducible exact ih0 _ _ _ _ _)
      | (with_reducible exact ih1 _ _ _ _)
      | (with_reducible exact ih2 _ _ _)
      | (with_reducible exact semvcsref25_place.mono _ _ _ _)
      | (with_reducible exact LeO.refl _)
      | (with_reducible exact LeO.none _)
      | (with_reducible refine LeO.ite ?_ ?_)
      | (with_reducible refine LeO.bind ?_ (fun _ => ?_))
      | exact ih0 _ _ _ _ _
      | exact ih1 _ _ _ _
      | exact ih2 _ _ _
      | exact semvcsref25_place.mono _ _ _ _
      | exact LeO.none _
      | refine LeO.ite ?_ ?_
      | refine LeO.bind ?_ (fun _ => ?_)
theorem semvcsref25_Set.mono : ∀ a0 a1 a2 a3 k, LeO (semvcsref25_Set.f k a0 a1 a2 a3) (semvcsref25_Set.f (k + 1) a0 a1 a2 a3) := by
  intro a0 a1 a2 a3 k
  obtain ⟨ih0, ih1, ih2⟩ := semvcsref25_Set.mono_l k
  unfold semvcsref25_Set.f
  repeat' first
      | (with_reducible exact ih0 _ _ _ _ _)
      | (with_reducible exact ih1 _ _ _ _)
      | (with_reducible exact ih2 _ _ _)
      | (with_reducible exact semvcsref25_place.mono _ _ _ _)
      | (with_reducible exact LeO.refl _)
      | (with_reducible exact LeO.none _)
      | (with_reducible refine LeO.ite ?_ ?_)
      | (with_reducible refine LeO.bind ?_ (fun _ => ?_))
      | exact ih0 _ _ _ _ _
      | exact ih1 _ _ _ _
      | exact ih2 _ _ _
      | exact semvcsref25_place.mono _ _ _ _
      | exact LeO.none _
      | refine LeO.ite ?_ ?_
      | refine LeO.bind ?_ (fun _ => ?_)
set_option maxHeartbeats 8000000 in
set_option maxRecDepth 100000 in
theorem semvcsref25_Set.calls (k : Nat) (P0_0_ : Nat → Prop) (A0_0 : Option Addr) (c0_0 : Nat) (l0_0 : List (S53)) (a1 : Int) (a2 : Int) (P3_ : Nat → Prop) (A3 : Option Addr) (c3 : Nat) (l3 : List (S49)) (r : List (S53)) (w : World) (hs0_0 : Kd.V k53 53 w w.heap.size (fun k_ => P0_0_ k_) (.slice A0_0 l0_0.length c0_0) l0_0) (hs3 : Kd.V k49 49 w w.heap.size (fun k_ => P3_ k_) (.slice A3 l3.length c3) l3) (h : semvcsref25_Set.f k l0_0 a1 a2 l3 = some r) :
    Calls Try.prog 27 #[.agg #[.slice A0_0 l0_0.length c0_0], .int .i64 a1, .int .i64 a2, .slice A3 l3.length c3] w fun e w' => ∃ v0_ : Value, e = .returned (.agg #[v0_]) ∧ Kd.N k53 53 w' w.heap.size (fun k_ => ((P0_0_ k_ ∨ P3_ k_) ∨ w.heap.size ≤ k_)) v0_ r ∧ Below w.heap.size w w' := by
  have hu25 := Try.underlying25
  have hu53 := Try.underlying53
  have HO0_0 := Aside0.mk (show Kd.V k53 53 w w.heap.size (fun k_ => ((P0_0_ k_ ∨ P3_ k_) ∨ w.heap.size ≤ k_)) (.slice A0_0 l0_0.length c0_0) l0_0 from Kd.V_mono hs0_0 (fun k_ hk => .inl (.inl hk)))
  have HO3 := Aside0.mk (show Kd.V k49 49 w w.heap.size (fun k_ => ((P0_0_ k_ ∨ P3_ k_) ∨ w.heap.size ≤ k_)) (.slice A3 l3.length c3) l3 from Kd.V_mono hs3 (fun k_ hk => .inl (.inr hk)))
  have HB := Aside0.mk (Below.refl w.heap.size w)
  have H : ((semvcsref25_place.f k l0_0 a1 a2).bind fun t136 => ((some (([] : List (S53)) : List (S53))).bind fun y137 => (if 0 ≤ t136 then (if t136 ≤ (l0_0.length : Int) then ((some (l0_0.take (t136 : Int).toNat : List (S53))).bind fun y140 => (if y137.length + y140.length < 3518437208883 then ((some (y137 ++ y140 : List (S53))).bind fun y145 => (if (l3.length : Int) > 0 then (if y145.length < 3518437208883 then (semvcsref25_Set.j0 k a1 a2 t136 (y145 ++ [(⟨a1, a2, l3⟩ : S53)]) l0_0) else (none)) else (semvcsref25_Set.j0 k a1 a2 t136 y145 l0_0))) else (none))) else (none)) else (none)))) = some r := h
  clear h
  replace H := Option.bind_eq_some_iff.mp H
  obtain ⟨t136, A50, H⟩ := H
  replace H : ((some (([] : List (S53)) : List (S53))).bind fun y137 => (if 0 ≤ t136 then (if t136 ≤ (l0_0.length : Int) then ((some (l0_0.take (t136 : Int).toNat : List (S53))).bind fun y140 => (if y137.length + y140.length < 3518437208883 then ((some (y137 ++ y140 : List (S53))).bind fun y145 => (if (l3.length : Int) > 0 then (if y145.length < 3518437208883 then (semvcsref25_Set.j0 k a1 a2 t136 (y145 ++ [(⟨a1, a2, l3⟩ : S53)]) l0_0) else (none)) else (semvcsref25_Set.j0 k a1 a2 t136 y145 l0_0))) else (none))) else (none)) else (none))) = some r := H
  have A5 := Aside0.mk A50
  clear A50
  obtain ⟨y137, hy137⟩ : ∃ y_ : List (S53), y_ = (([] : List (S53))) := ⟨_, rfl⟩
  replace H : (if 0 ≤ t136 then (if t136 ≤ (l0_0.length : Int) then ((some (l0_0.take (t136 : Int).toNat : List (S53))).bind fun y140 => (if y137.length + y140.length < 3518437208883 then ((some (y137 ++ y140 : List (S53))).bind fun y145 => (if (l3.length : Int) > 0 then (if y145.length < 3518437208883 then (semvcsref25_Set.j0 k a1 a2 t136 (y145 ++ [(⟨a1, a2, l3⟩ : S53)]) l0_0) else (none)) else (semvcsref25_Set.j0 k a1 a2 t136 y145 l0_0))) else (none))) else (none)) else (none)) = some r := by first | (rw [hy137]; with_reducible exact H) | (have H2_ := (Option.bind_some _ _).symm.trans H; rw [hy137]; with_reducible exact H2_) | (have H2_ := (Option.bind_some _ _).symm.trans H; with_reducible exact H2_) | with_reducible exact H | (rw [hy137]; exact H) | exact H
  have Ny137 := Aside0.mk hy137
  clear hy137
  by_cases c6 : 0 ≤ t136
  · rw [if_pos c6] at H
    have c6b0 := eq_true c6
    have c6b1 : decide (0 ≤ t136) = true := decide_eq_true c6
    clear c6
    by_cases c7 : t136 ≤ (l0_0.length : Int)
    · rw [if_pos c7] at H
      have c7b0 := eq_true c7
      have c7b1 : decide (t136 ≤ (l0_0.length : Int)) = true := decide_eq_true c7
      clear c7
      obtain ⟨y140, hy140⟩ : ∃ y_ : List (S53), y_ = (l0_0.take (t136 : Int).toNat) := ⟨_, rfl⟩
      replace H : (if y137.length + y140.length < 3518437208883 then ((some (y137 ++ y140 : List (S53))).bind fun y145 => (if (l3.length : Int) > 0 then (if y145.length < 3518437208883 then (semvcsref25_Set.j0 k a1 a2 t136 (y145 ++ [(⟨a1, a2, l3⟩ : S53)]) l0_0) else (none)) else (semvcsref25_Set.j0 k a1 a2 t136 y145 l0_0))) else (none)) = some r := by first | (rw [hy140]; with_reducible exact H) | (have H2_ := (Option.bind_some _ _).symm.trans H; rw [hy140]; with_reducible exact H2_) | (have H2_ := (Option.bind_some _ _).symm.trans H; with_reducible exact H2_) | with_reducible exact H | (rw [hy140]; exact H) | exact H
      have Ny140 := Aside0.mk hy140
      clear hy140
      by_cases c8 : y137.length + y140.length < 3518437208883
      · rw [if_pos c8] at H
        have LMc8 := Aside0.mk c8
        clear c8
        obtain ⟨y145, hy145⟩ : ∃ y_ : List (S53), y_ = (y137 ++ y140) := ⟨_, rfl⟩
        replace H : (if (l3.length : Int) > 0 then (if y145.length < 3518437208883 then (semvcsref25_Set.j0 k a1 a2 t136 (y145 ++ [(⟨a1, a2, l3⟩ : S53)]) l0_0) else (none)) else (semvcsref25_Set.j0 k a1 a2 t136 y145 l0_0)) = some r := by first | (rw [hy145]; with_reducible exact H) | (have H2_ := (Option.bind_some _ _).symm.trans H; rw [hy145]; with_reducible exact H2_) | (have H2_ := (Option.bind_some _ _).symm.trans H; with_reducible exact H2_) | with_reducible exact H | (rw [hy145]; exact H) | exact H
        have Ny145 := Aside0.mk hy145
        clear hy145
        have HC9 := Aside0.mk H
        clear H
        go_enter Try.func27, Try.ntmps27
        go_upto_if 23 with (first | ((with_reducible refine gate_dst (N := 4) rfl ?_); refine box_event ?hg (N := 4) ?hd (cs := #[.slice A0_0 l0_0.length c0_0]) (t := 25) ?hr ?_; (case hd => rfl); (case hg => rfl); (case hr => first | (go_simp; done) | (go_simp; rfl)); intro gb134 hg w10 hbox hb; have n0_ := Aside0.mk (Kd.V_below (Kd.V_elderB (by (with_reducible repeat (first | apply Kd.V_alloc | apply Kd.V_drewN | apply Kd.V_drew)); exact HO0_0.out) gb134 (Nat.le_of_eq hg.symm)) hb); have n1_ := Aside0.mk (Kd.V_below (Kd.V_elderB (by (with_reducible repeat (first | apply Kd.V_alloc | apply Kd.V_drewN | apply Kd.V_drew)); exact HO3.out) gb134 (Nat.le_of_eq hg.symm)) hb); have n2_ := Aside0.mk (below_step (by repeat (first | (with_reducible first | exact HB.out | apply below_alloc | apply pw_below_drewN | apply below_drew1) | exact HB.out)) hb); have n3_ := Aside0.mk (hbox); have n4_ := Aside0.mk ((by rw [hg]; exact (below_size (by repeat (first | (with_reducible first | exact HB.out | apply below_alloc | apply pw_below_drewN | apply below_drew1) | exact HB.out))) : w.heap.size ≤ gb134)); have n5_ := Aside0.mk ((by rw [hg]; exact (below_size (by repeat (first | (with_reducible first | exact HB.out | apply below_alloc | apply pw_below_drewN | apply below_drew1) | exact HB.out))) : w.heap.size ≤ gb134)); clear HO0_0; clear HO3; clear HB; have HO0_0 := n0_; have HO3 := n1_; have HB := n2_; have BK134 := n3_; have GW134 := n4_; have GE134 := n5_; clear n0_ n1_ n2_ n3_ n4_ n5_; clear hb hbox hg) | ((with_reducible refine gate_dst (N := 8) rfl ?_); refine box_event ?hg (N := 8) ?hd (cs := #[.slice none 0 0]) (t := 25) ?hr ?_; (case hd => rfl); (case hg => rfl); (case hr => first | (go_simp; done) | (go_simp; rfl)); intro gb135 hg w11 hbox hb; have n0_ := Aside0.mk (Kd.V_below (Kd.V_elderB (by (with_reducible repeat (first | apply Kd.V_alloc | apply Kd.V_drewN | apply Kd.V_drew)); exact HO0_0.out) gb135 (Nat.le_of_eq hg.symm)) hb); have n1_ := Aside0.mk (Kd.V_below (Kd.V_elderB (by (with_reducible repeat (first | apply Kd.V_alloc | apply Kd.V_drewN | apply Kd.V_drew)); exact HO3.out) gb135 (Nat.le_of_eq hg.symm)) hb); have n2_ := Aside0.mk (blk_below (g := gb134) (o := .cells #[.slice A0_0 l0_0.length c0_0] 25 (0, 0)) (by (with_reducible repeat (first | refine blk_drewN ?_ _ | refine blk_drew ?_ | refine blk_alloc ?_ _)); exact BK134.out) hb); have n3_ := Aside0.mk (below_step (by repeat (first | (with_reducible first | exact HB.out | apply below_alloc | apply pw_below_drewN | apply below_drew1 | refine below_set ?_ GE134.out) | exact HB.out)) hb); have n4_ := Aside0.mk (hbox); have n5_ := Aside0.mk ((by rw [hg]; exact (below_size (by repeat (first | (with_reducible first | exact HB.out | apply below_alloc | apply pw_below_drewN | apply below_drew1 | refine below_set ?_ GE134.out) | exact HB.out))) : w.heap.size ≤ gb135)); have n6_ := Aside0.mk ((by rw [hg]; exact (below_size (by repeat (first | (with_reducible first | exact HB.out | apply below_alloc | apply pw_below_drewN | apply below_drew1 | refine below_set ?_ GE134.out) | exact HB.out))) : w.heap.size ≤ gb135)); have n7_ := Aside0.mk ((by rw [hg]; exact Nat.ne_of_lt (blk_lt (g := gb134) (o := .cells #[.slice A0_0 l0_0.length c0_0] 25 (0, 0)) (by (with_reducible repeat (first | refine blk_drewN ?_ _ | refine blk_drew ?_ | refine blk_alloc ?_ _)); exact BK134.out)) : gb134 ≠ gb135)); have n8_ := Aside0.mk ((by rw [hg]; exact Nat.ne_of_gt (blk_lt (g := gb134) (o := .cells #[.slice A0_0 l0_0.length c0_0] 25 (0, 0)) (by (with_reducible repeat (first | refine blk_drewN ?_ _ | refine blk_drew ?_ | refine blk_alloc ?_ _)); exact BK134.out)) : gb135 ≠ gb134)); clear HO0_0; clear HO3; clear BK134; clear HB; have HO0_0 := n0_; have HO3 := n1_; have BK134 := n2_; have HB := n3_; have BK135 := n4_; have GW135 := n5_; have GE135 := n6_; have NB134_135 := n7_; have NB135_134 := n8_; clear n0_ n1_ n2_ n3_ n4_ n5_ n6_ n7_ n8_; clear hb hbox hg; have hnb12 := NB134_135.out; have hnc12 := NB135_134.out; have hcz13_0 : w11.cell? ⟨gb134, 0, none⟩ = some (.slice A0_0 l0_0.length c0_0) := (blk_cell BK134.out 0).trans rfl; have hfz13_0 := blk_frozen BK134.out 0) | ((with_reducible refine gate_callee (f := 42) rfl ?_); refine goesL_ (some 14) rfl rfl Try.func42 (by kernel_rfl) rfl #[.agg #[.slice A0_0 l0_0.length c0_0], .int .i64 a1, .int .i64 a2] rfl (by (try simp only [List.map_toArray, List.map_cons, List.map_nil]); first | done | rfl | (simp only [List.length_drop, List.length_take]; rfl)) ?_; (with_reducible refine (semvcsref25_place.calls k _ _ l0_0 a1 a2 t136 _ ?side1 ?side2 A5.out).mono ?_); (case side1 => repeat (first | exact (Kd.V_reads' HO0_0.out).2.2 | (with_reducible refine Kd.C_alloc ?_ _) | (with_reducible refine Kd.C_drewN ?_ _) | (with_reducible refine Kd.C_drew ?_))); (case side2 => exact (Kd.V_reads' HO0_0.out).2.1); rintro e w14 ⟨rfl, hb⟩; refine ⟨_, rfl, ?_⟩; have n0_ := Aside0.mk (Kd.V_below (by (with_reducible repeat (first | apply Kd.V_alloc | apply Kd.V_drewN | apply Kd.V_drew)); exact HO0_0.out) hb); have n1_ := Aside0.mk (Kd.V_below (by (with_reducible repeat (first | apply Kd.V_alloc | apply Kd.V_drewN | apply Kd.V_drew)); exact HO3.out) hb); have n2_ := Aside0.mk (blk_below (g := gb134) (o := .cells #[.slice A0_0 l0_0.length c0_0] 25 (0, 0)) (by (with_reducible repeat (first | refine blk_drewN ?_ _ | refine blk_drew ?_ | refine blk_alloc ?_ _)); exact BK134.out) hb); have n3_ := Aside0.mk (blk_below (g := gb135) (o := .cells #[.slice none 0 0] 25 (0, 0)) (by (with_reducible repeat (first | refine blk_drewN ?_ _ | refine blk_drew ?_ | refine blk_alloc ?_ _)); exact BK135.out) hb); have n4_ := Aside0.mk (below_step (by repeat (first | (with_reducible first | exact HB.out | apply below_alloc | apply pw_below_drewN | apply below_drew1 | refine below_set ?_ GE134.out | refine below_set ?_ GE135.out) | exact HB.out)) hb); clear HO0_0; clear HO3; clear BK134; clear BK135; clear HB; have HO0_0 := n0_; have HO3 := n1_; have BK134 := n2_; have BK135 := n3_; have HB := n4_; clear n0_ n1_ n2_ n3_ n4_; (try clear hb); (try clear hb2); (try clear hk); (try clear hi)) | ((with_reducible refine gate_dst (N := 15) rfl ?_); refine Kd.N_lit k53 _ 53 ?hg (N' := 15) ?hd (xs := ([] : List (S53))) (inner := []) (ok := (fun k_ => ((P0_0_ k_ ∨ P3_ k_) ∨ w.heap.size ≤ k_) ∧ k_ ≠ gb134 ∧ k_ ≠ gb135)) (okp := (fun k_ => ((P0_0_ k_ ∨ P3_ k_) ∨ w.heap.size ≤ k_) ∧ k_ ≠ gb134 ∧ k_ ≠ gb135)) ?hr ?hp (fun _ hk => hk) ((show ∀ k_, w14.heap.size ≤ k_ → (fun k_ => ((P0_0_ k_ ∨ P3_ k_) ∨ w.heap.size ≤ k_) ∧ k_ ≠ gb134 ∧ k_ ≠ gb135) k_ from fun k_ hk => ⟨(.inr (Nat.le_trans (below_size (by repeat (first | (with_reducible first | exact HB.out | apply below_alloc | apply pw_below_drewN | apply below_drew1 | refine below_set ?_ GE134.out | refine below_set ?_ GE135.out) | exact HB.out))) hk)), Kd.freshB (g := gb134) (o := .cells #[.slice A0_0 l0_0.length c0_0] 25 (0, 0)) (by (with_reducible repeat (first | refine blk_drewN ?_ _ | refine blk_drew ?_ | refine blk_alloc ?_ _)); exact BK134.out) k_ hk, Kd.freshB (g := gb135) (o := .cells #[.slice none 0 0] 25 (0, 0)) (by (with_reducible repeat (first | refine blk_drewN ?_ _ | refine blk_drew ?_ | refine blk_alloc ?_ _)); exact BK135.out) k_ hk⟩) _ (Nat.le_refl _)) (Below.refl _ _) (Nat.le_refl _) (by simp) ?_; (case hd => rfl); (case hg => rfl); (case hr => first | (go_simp; done) | (go_simp; rfl)); (case hp => exact (Reps.none _ _)); intro v138 w15 ho16 hb hg_ hnew_; clear hg_ hnew_; (first | rw [← Ny137.out] at ho16 | (simp only [Int.reduceToNat] at ho16; rw [← Ny137.out] at ho16)); have n0_ := Aside0.mk (Kd.V_elder' (by (with_reducible repeat (first | apply Kd.V_alloc | apply Kd.V_drewN | apply Kd.V_drew)); exact HO0_0.out) (Kd.N_base ho16) hb); have n1_ := Aside0.mk (Kd.V_elder' (by (with_reducible repeat (first | apply Kd.V_alloc | apply Kd.V_drewN | apply Kd.V_drew)); exact HO3.out) (Kd.N_base ho16) hb); have n2_ := Aside0.mk (Kd.N_lower ho16 (below_size (by repeat (first | (with_reducible first | exact HB.out | apply below_alloc | apply pw_below_drewN | apply below_drew1 | refine below_set ?_ GE134.out | refine below_set ?_ GE135.out) | exact HB.out)))); have n3_ := Aside0.mk (blk_below (g := gb134) (o := .cells #[.slice A0_0 l0_0.length c0_0] 25 (0, 0)) (by (with_reducible repeat (first | refine blk_drewN ?_ _ | refine blk_drew ?_ | refine blk_alloc ?_ _)); exact BK134.out) hb); have n4_ := Aside0.mk (blk_below (g := gb135) (o := .cells #[.slice none 0 0] 25 (0, 0)) (by (with_reducible repeat (first | refine blk_drewN ?_ _ | refine blk_drew ?_ | refine blk_alloc ?_ _)); exact BK135.out) hb); have n5_ := Aside0.mk (below_step (by repeat (first | (with_reducible first | exact HB.out | apply below_alloc | apply pw_below_drewN | apply below_drew1 | refine below_set ?_ GE134.out | refine below_set ?_ GE135.out) | exact HB.out)) hb); clear HO0_0; clear HO3; clear BK134; clear BK135; clear HB; have HO0_0 := n0_; have HO3 := n1_; have HO139 := n2_; have BK134 := n3_; have BK135 := n4_; have HB := n5_; clear n0_ n1_ n2_ n3_ n4_ n5_; clear hb ho16; have hcz17_0 : w15.cell? ⟨gb134, 0, none⟩ = some (.slice A0_0 l0_0.length c0_0) := (blk_cell BK134.out 0).trans rfl; have hfz17_0 := blk_frozen BK134.out 0; have q18 : (t136 : Int) ≤ ((l0_0.length : Int) : Int) := of_decide_eq_true (by first | (with_reducible assumption) | assumption); obtain ⟨i018, hi018, _, hsz18, _⟩ := info_parts info53; have hroom18 : l0_0.length ≤ c0_0 := (Kd.V_reads' HO0_0.out).2.1; have hC18 : Kd.F k53 _ _ A0_0 l0_0.length l0_0 := (Kd.V_at (base := w.heap.size) HO0_0.out).2.2; have hcut18 := cut_to (P := Try.prog) 23 53 .i64 Try.underlying23 hi018 A0_0 l0_0.length c0_0 t136 (of_decide_eq_true (by first | (with_reducible assumption) | assumption)) q18 hroom18; have hr18 := Kd.F_take (m := (t136 : Int).toNat) hC18 (by omega); have hy18 : y140.length = (t136 : Int).toNat := (by rw [Ny140.out, List.length_take]; omega); rw [← Ny140.out] at hr18; rw [← hy18] at hcut18; have HO144 := Aside0.mk (show Kd.V k53 53 _ w.heap.size _ (.slice A0_0 y140.length c0_0) y140 from Kd.V_mk (by omega) hr18); have HC144 := Aside0.mk (show y140.length ≤ c0_0 from by omega); clear hr18 hC18 hroom18 hi018 hsz18; have KY18 := Aside0.mk hy18; clear hy18; replace q18 := eq_true q18) | ((with_reducible refine gate_builtin (b := .append) (xs := #[.tmp 15, .tmp 19]) rfl ?_); at_builtin; refine Kd.N_append_rows k53 (w0 := w) w.heap.size rfl (.tmp 15) (.tmp 19) 23 53 (.agg #[(.int .i64 0), (.int .i64 0), (.slice none 0 0)]) 40 rfl Try.underlying23 info53 rfl (by decide) (by omega) v138 y137 y140 _ _ _ (fun k_ => ((P0_0_ k_ ∨ P3_ k_) ∨ w.heap.size ≤ k_) ∧ k_ ≠ gb134 ∧ k_ ≠ gb135) (fun k_ => ((fun k_ => ((P0_0_ k_ ∨ P3_ k_) ∨ w.heap.size ≤ k_) ∧ k_ ≠ gb134 ∧ k_ ≠ gb135)) k_ ∧ some k_ ≠ (v138 : Value).ownBlock) rfl rfl ?aO ?aR (fun _ hk => hk) ?aF ?aB ?aS ?aL ?_; (case aR => exact (by skip; exact Kd.V_F (Kd.V_mono (ok' := (fun k_ => ((fun k_ => ((P0_0_ k_ ∨ P3_ k_) ∨ w.heap.size ≤ k_) ∧ k_ ≠ gb134 ∧ k_ ≠ gb135)) k_ ∧ some k_ ≠ (v138 : Value).ownBlock)) (HO144.out) (fun k_ hk => ⟨⟨hk.1.1.1, ⟨hk.1.1.2, hk.1.2⟩⟩, hk.2⟩)))); (case aB => exact (by repeat (first | (with_reducible first | exact HB.out | apply below_alloc | apply pw_below_drewN | apply below_drew1 | refine below_set ?_ GE134.out | refine below_set ?_ GE135.out) | exact HB.out))); (case aF => exact (fun k_ hk => ⟨(.inr (Nat.le_trans (below_size (by repeat (first | (with_reducible first | exact HB.out | apply below_alloc | apply pw_below_drewN | apply below_drew1 | refine below_set ?_ GE134.out | refine below_set ?_ GE135.out) | exact HB.out))) hk)), Kd.freshB (g := gb134) (o := .cells #[.slice A0_0 l0_0.length c0_0] 25 (0, 0)) (by (with_reducible repeat (first | refine blk_drewN ?_ _ | refine blk_drew ?_ | refine blk_alloc ?_ _)); exact BK134.out) k_ hk, Kd.freshB (g := gb135) (o := .cells #[.slice none 0 0] 25 (0, 0)) (by (with_reducible repeat (first | refine blk_drewN ?_ _ | refine blk_drew ?_ | refine blk_alloc ?_ _)); exact BK135.out) k_ hk⟩)); (case aO => exact (by (with_reducible repeat (first | apply Kd.N_alloc | apply Kd.N_drewN | apply Kd.N_drew)); exact HO139.out)); (case aS => exact (below_size (by repeat (first | (with_reducible first | exact HB.out | apply below_alloc | apply pw_below_drewN | apply below_drew1 | refine below_set ?_ GE134.out | refine below_set ?_ GE135.out) | exact HB.out)))); (case aL => have := LMc8.out; omega); intro v146 w19 ho hb hg hat; rw [← Ny145.out] at ho; have n0_ := Aside0.mk (Kd.V_afterv (ok := (fun k_ => ((P0_0_ k_ ∨ P3_ k_) ∨ w.heap.size ≤ k_) ∧ k_ ≠ gb134 ∧ k_ ≠ gb135)) (by (with_reducible repeat (first | apply Kd.V_alloc | apply Kd.V_drewN | apply Kd.V_drew)); exact Kd.V_mono HO0_0.out (fun _ hk => ⟨⟨hk.1.1.1, ⟨hk.1.1.2, hk.1.2⟩⟩, hk.2⟩)) hg hat); have n1_ := Aside0.mk (Kd.V_afterv (ok := (fun k_ => ((P0_0_ k_ ∨ P3_ k_) ∨ w.heap.size ≤ k_) ∧ k_ ≠ gb134 ∧ k_ ≠ gb135)) (by (with_reducible repeat (first | apply Kd.V_alloc | apply Kd.V_drewN | apply Kd.V_drew)); exact Kd.V_mono HO3.out (fun _ hk => ⟨⟨hk.1.1.1, ⟨hk.1.1.2, hk.1.2⟩⟩, hk.2⟩)) hg hat); have n2_ := Aside0.mk (blk_grown (g := gb134) (o := .cells #[.slice A0_0 l0_0.length c0_0] 25 (0, 0)) (by (with_reducible repeat (first | refine blk_drewN ?_ _ | refine blk_drew ?_ | refine blk_alloc ?_ _)); exact BK134.out) hg (Kd.N_ne HO139.out BK134.out (by decide))); have n3_ := Aside0.mk (blk_grown (g := gb135) (o := .cells #[.slice none 0 0] 25 (0, 0)) (by (with_reducible repeat (first | refine blk_drewN ?_ _ | refine blk_drew ?_ | refine blk_alloc ?_ _)); exact BK135.out) hg (Kd.N_ne HO139.out BK135.out (by decide))); have n4_ := Aside0.mk (Kd.V_afterv (ok := (fun k_ => ((P0_0_ k_ ∨ P3_ k_) ∨ w.heap.size ≤ k_) ∧ k_ ≠ gb134 ∧ k_ ≠ gb135)) (by (with_reducible repeat (first | apply Kd.V_alloc | apply Kd.V_drewN | apply Kd.V_drew)); exact Kd.V_mono HO144.out (fun _ hk => ⟨⟨hk.1.1.1, ⟨hk.1.1.2, hk.1.2⟩⟩, hk.2⟩)) hg hat); have n5_ := Aside0.mk (hb); have n6_ := Aside0.mk (ho); clear HO0_0; clear HO3; clear BK134; clear BK135; clear HO144; clear HB; clear HO139; have HO0_0 := n0_; have HO3 := n1_; have BK134 := n2_; have BK135 := n3_; have HO144 := n4_; have HB := n5_; have HO147 := n6_; clear n0_ n1_ n2_ n3_ n4_ n5_ n6_; clear ho hb hg hat))
        (try simp only [Act.put, List.setIfInBounds_toArray, List.set_cons_zero, List.set_cons_succ])
        go_cut [10] (fun v10 wc => ∃ (kq : Nat) (x10_8 : List (S53)), Aside0 (semvcsref25_Set.j0 kq a1 a2 t136 x10_8 l0_0 = some r) ∧ Aside0 (kq ≤ k) ∧ Aside0 (Kd.N k53 53 wc w.heap.size (fun k_ => ((P0_0_ k_ ∨ P3_ k_) ∨ w.heap.size ≤ k_) ∧ k_ ≠ gb134 ∧ k_ ≠ gb135) v10 x10_8) ∧ Aside0 (Kd.V k53 53 wc w.heap.size (fun k_ => ((P0_0_ k_ ∨ P3_ k_) ∨ w.heap.size ≤ k_) ∧ some k_ ≠ (v10 : Value).ownBlock ∧ k_ ≠ gb134 ∧ k_ ≠ gb135) (.slice A0_0 l0_0.length c0_0) l0_0) ∧ Aside0 (wc.heap[gb134]? = some (.cells #[(.slice A0_0 l0_0.length c0_0)] 25 (0, 0))) ∧ Aside0 (wc.heap[gb135]? = some (.cells #[(.slice none 0 0)] 25 (0, 0))) ∧ Aside0 (Below w.heap.size w wc))
        case first =>
          have H := HC9.out
          clear HC9
          by_cases c20 : (l3.length : Int) > 0
          · rw [if_pos c20] at H
            have c20b0 : decide (0 < (l3.length : Int)) = true := decide_eq_true c20
            have c20b1 : decide (0 < l3.length) = true := decide_eq_true (by omega)
            clear c20
            (first | rw [c20b0] | (simp only [i64_w, i32_w]; rw [c20b0]) | rw [c20b1] | skip)
            by_cases c21 : y145.length < 3518437208883
            · rw [if_pos c21] at H
              have LMc21 := Aside0.mk c21
              clear c21
              obtain ⟨y148, hy148⟩ : ∃ y_ : List (S53), y_ = (y145 ++ [(⟨a1, a2, l3⟩ : S53)]) := ⟨_, rfl⟩
              replace H : (semvcsref25_Set.j0 k a1 a2 t136 y148 l0_0) = some r := by first | (rw [hy148]; with_reducible exact H) | (have H2_ := (Option.bind_some _ _).symm.trans H; rw [hy148]; with_reducible exact H2_) | (have H2_ := (Option.bind_some _ _).symm.trans H; with_reducible exact H2_) | with_reducible exact H | (rw [hy148]; exact H) | exact H
              have Ny148 := Aside0.mk hy148
              clear hy148
              have H' := Aside0.mk H
              clear H
              go_wp2_with (first | ((with_reducible refine gate_builtin (b := .append) (xs := #[.tmp 24, .tmp 29]) rfl ?_); at_builtin; refine Kd.N_append k53 (w0 := w) w.heap.size rfl (.tmp 24) (.tmp 29) 23 53 (.agg #[(.int .i64 0), (.int .i64 0), (.slice none 0 0)]) 40 rfl Try.underlying23 info53 rfl (by decide) (by omega) v146 y145 (⟨a1, a2, l3⟩ : S53) [.int .i64 a1, .int .i64 a2, .slice A3 l3.length c3] (fun k_ => ((P0_0_ k_ ∨ P3_ k_) ∨ w.heap.size ≤ k_) ∧ k_ ≠ gb134 ∧ k_ ≠ gb135) (fun k_ => ((fun k_ => ((P0_0_ k_ ∨ P3_ k_) ∨ w.heap.size ≤ k_) ∧ k_ ≠ gb134 ∧ k_ ≠ gb135)) k_ ∧ some k_ ≠ (v146 : Value).ownBlock) rfl rfl ?aP (fun _ hk => hk) ?aF ?aO ?aB ?aS ?aL ?_; (case aP => exact (k53_mkF _ _ (⟨a1, a2, l3⟩ : S53) (Kd.V_reads' (Kd.V_mono (ok' := (fun k_ => ((fun k_ => ((P0_0_ k_ ∨ P3_ k_) ∨ w.heap.size ≤ k_) ∧ k_ ≠ gb134 ∧ k_ ≠ gb135)) k_ ∧ some k_ ≠ (v146 : Value).ownBlock)) (HO3.out) (fun k_ hk => ⟨⟨hk.1.1, ⟨hk.1.2.1, hk.1.2.2⟩⟩, hk.2⟩))).2.1 (Kd.V_F (Kd.V_mono (ok' := (fun k_ => ((fun k_ => ((P0_0_ k_ ∨ P3_ k_) ∨ w.heap.size ≤ k_) ∧ k_ ≠ gb134 ∧ k_ ≠ gb135)) k_ ∧ some k_ ≠ (v146 : Value).ownBlock)) (HO3.out) (fun k_ hk => ⟨⟨hk.1.1, ⟨hk.1.2.1, hk.1.2.2⟩⟩, hk.2⟩))))); (case aB => exact (by repeat (first | (with_reducible first | exact HB.out | apply below_alloc | apply pw_below_drewN | apply below_drew1 | refine below_set ?_ GE134.out | refine below_set ?_ GE135.out) | exact HB.out))); (case aF => exact (fun k_ hk => ⟨(.inr (Nat.le_trans (below_size (by repeat (first | (with_reducible first | exact HB.out | apply below_alloc | apply pw_below_drewN | apply below_drew1 | refine below_set ?_ GE134.out | refine below_set ?_ GE135.out) | exact HB.out))) hk)), Kd.freshB (g := gb134) (o := .cells #[.slice A0_0 l0_0.length c0_0] 25 (0, 0)) (by (with_reducible repeat (first | refine blk_drewN ?_ _ | refine blk_drew ?_ | refine blk_alloc ?_ _)); exact BK134.out) k_ hk, Kd.freshB (g := gb135) (o := .cells #[.slice none 0 0] 25 (0, 0)) (by (with_reducible repeat (first | refine blk_drewN ?_ _ | refine blk_drew ?_ | refine blk_alloc ?_ _)); exact BK135.out) k_ hk⟩)); (case aO => exact (by (with_reducible repeat (first | apply Kd.N_alloc | apply Kd.N_drewN | apply Kd.N_drew)); exact HO147.out)); (case aS => exact (below_size (by repeat (first | (with_reducible first | exact HB.out | apply below_alloc | apply pw_below_drewN | apply below_drew1 | refine below_set ?_ GE134.out | refine below_set ?_ GE135.out) | exact HB.out)))); (case aL => have := LMc21.out; omega); intro v149 w22 ho hb hg hat; rw [← Ny148.out] at ho; have n0_ := Aside0.mk (Kd.V_afterv (ok := (fun k_ => ((P0_0_ k_ ∨ P3_ k_) ∨ w.heap.size ≤ k_) ∧ k_ ≠ gb134 ∧ k_ ≠ gb135)) (by (with_reducible repeat (first | apply Kd.V_alloc | apply Kd.V_drewN | apply Kd.V_drew)); exact HO0_0.out) hg hat); have n1_ := Aside0.mk (Kd.V_afterv (ok := (fun k_ => ((P0_0_ k_ ∨ P3_ k_) ∨ w.heap.size ≤ k_) ∧ k_ ≠ gb134 ∧ k_ ≠ gb135)) (by (with_reducible repeat (first | apply Kd.V_alloc | apply Kd.V_drewN | apply Kd.V_drew)); exact HO3.out) hg hat); have n2_ := Aside0.mk (blk_grown (g := gb134) (o := .cells #[.slice A0_0 l0_0.length c0_0] 25 (0, 0)) (by (with_reducible repeat (first | refine blk_drewN ?_ _ | refine blk_drew ?_ | refine blk_alloc ?_ _)); exact BK134.out) hg (Kd.N_ne HO147.out BK134.out (by decide))); have n3_ := Aside0.mk (blk_grown (g := gb135) (o := .cells #[.slice none 0 0] 25 (0, 0)) (by (with_reducible repeat (first | refine blk_drewN ?_ _ | refine blk_drew ?_ | refine blk_alloc ?_ _)); exact BK135.out) hg (Kd.N_ne HO147.out BK135.out (by decide))); have n4_ := Aside0.mk (Kd.V_afterv (ok := (fun k_ => ((P0_0_ k_ ∨ P3_ k_) ∨ w.heap.size ≤ k_) ∧ k_ ≠ gb134 ∧ k_ ≠ gb135)) (by (with_reducible repeat (first | apply Kd.V_alloc | apply Kd.V_drewN | apply Kd.V_drew)); exact HO144.out) hg hat); have n5_ := Aside0.mk (hb); have n6_ := Aside0.mk (ho); clear HO0_0; clear HO3; clear BK134; clear BK135; clear HO144; clear HB; clear HO147; have HO0_0 := n0_; have HO3 := n1_; have BK134 := n2_; have BK135 := n3_; have HO144 := n4_; have HB := n5_; have HO150 := n6_; clear n0_ n1_ n2_ n3_ n4_ n5_ n6_; clear ho hb hg hat))
              go_meet
              case rel => exact ⟨_, (y148), H', ⟨by first | omega | exact Nat.le_refl _⟩, ⟨by (with_reducible repeat (first | apply Kd.N_alloc | apply Kd.N_drewN | apply Kd.N_drew)); exact HO150.out⟩, ⟨by (with_reducible repeat (first | apply Kd.V_alloc | apply Kd.V_drewN | apply Kd.V_drew)); exact Kd.V_mono HO0_0.out (fun _ hk => ⟨hk.1.1, ⟨hk.2, ⟨hk.1.2.1, hk.1.2.2⟩⟩⟩)⟩, ⟨by (with_reducible repeat (first | refine blk_drewN ?_ _ | refine blk_drew ?_ | refine blk_alloc ?_ _)); exact BK134.out⟩, ⟨by (with_reducible repeat (first | refine blk_drewN ?_ _ | refine blk_drew ?_ | refine blk_alloc ?_ _)); exact BK135.out⟩, ⟨by repeat (first | (with_reducible first | exact HB.out | apply below_alloc | apply pw_below_drewN | apply below_drew1 | refine below_set ?_ GE134.out | refine below_set ?_ GE135.out) | exact HB.out)⟩⟩
            · rw [if_neg c21] at H
              exact absurd H (by simp)
          · rw [if_neg c20] at H
            have c20b0 : decide (0 < (l3.length : Int)) = false := decide_eq_false c20
            have c20b1 : decide (0 < l3.length) = false := decide_eq_false (by omega)
            clear c20
            (first | rw [c20b0] | (simp only [i64_w, i32_w]; rw [c20b0]) | rw [c20b1] | skip)
            have H' := Aside0.mk H
            clear H
            go_wp2
            go_meet
            case rel => exact ⟨_, (y145), H', ⟨by first | omega | exact Nat.le_refl _⟩, ⟨by (with_reducible repeat (first | apply Kd.N_alloc | apply Kd.N_drewN | apply Kd.N_drew)); exact HO147.out⟩, ⟨by (with_reducible repeat (first | apply Kd.V_alloc | apply Kd.V_drewN | apply Kd.V_drew)); exact Kd.V_mono HO0_0.out (fun _ hk => ⟨hk.1.1, ⟨hk.2, ⟨hk.1.2.1, hk.1.2.2⟩⟩⟩)⟩, ⟨by (with_reducible repeat (first | refine blk_drewN ?_ _ | refine blk_drew ?_ | refine blk_alloc ?_ _)); exact BK134.out⟩, ⟨by (with_reducible repeat (first | refine blk_drewN ?_ _ | refine blk_drew ?_ | refine blk_alloc ?_ _)); exact BK135.out⟩, ⟨by repeat (first | (with_reducible first | exact HB.out | apply below_alloc | apply pw_below_drewN | apply below_drew1 | refine below_set ?_ GE134.out | refine below_set ?_ GE135.out) | exact HB.out)⟩⟩
        case rest =>
          clear HC9
          try clear c1
          try clear q1
          try clear c2
          try clear p2
          try clear c3
          try clear c4
          try clear c6
          try clear c6b0
          try clear c6b1
          try clear c7
          try clear c7b0
          try clear c7b1
          try clear c8
          try clear c12
          try clear q18
          try clear c20
          try clear c20b0
          try clear c20b1
          try clear c21
          try clear hcz13_0
          try clear hcz17_0
          try clear hfz13_0
          try clear hfz17_0
          try clear q18
          obtain ⟨kq, x10_8, HA, HJ8, HO_10, HO_135000, BK134, BK135, HB⟩ := hcut
          cases kq with
          | zero => exact absurd HA.out (by simp [semvcsref25_Set.j0])
          | succ kj8 =>
            have H := HA.out
            clear HA
            simp only [semvcsref25_Set.j0] at H
            have HC23 := Aside0.mk H
            clear H
            go_upto_region 5 with (fail)
            go_cut [55] (fun v55 wc => ∃ (kq : Nat) (x55_22 : Bool), v55 = .bool x55_22 ∧ Aside0 (semvcsref25_Set.j1 kq t136 x10_8 x55_22 l0_0 = some r) ∧ Aside0 (kq ≤ kj8) ∧ Aside0 (Kd.N k53 53 wc w.heap.size (fun k_ => ((P0_0_ k_ ∨ P3_ k_) ∨ w.heap.size ≤ k_) ∧ k_ ≠ gb134 ∧ k_ ≠ gb135) u10 x10_8) ∧ Aside0 (Kd.V k53 53 wc w.heap.size (fun k_ => ((P0_0_ k_ ∨ P3_ k_) ∨ w.heap.size ≤ k_) ∧ some k_ ≠ (u10 : Value).ownBlock ∧ k_ ≠ gb134 ∧ k_ ≠ gb135) (.slice A0_0 l0_0.length c0_0) l0_0) ∧ Aside0 (wc.heap[gb134]? = some (.cells #[(.slice A0_0 l0_0.length c0_0)] 25 (0, 0))) ∧ Aside0 (wc.heap[gb135]? = some (.cells #[(.slice none 0 0)] 25 (0, 0))) ∧ Aside0 (Below w.heap.size w wc))
            case first =>
              have H := HC23.out
              clear HC23
              by_cases c24 : t136 < (l0_0.length : Int)
              · rw [if_pos c24] at H
                have c24b0 : decide (t136 < (l0_0.length : Int)) = true := decide_eq_true c24
                clear c24
                (first | rw [c24b0] | (simp only [i64_w, i32_w]; rw [c24b0]) | rw [c24b1] | skip)
                by_cases c25 : 0 ≤ t136
                · rw [if_pos c25] at H
                  have c25b0 : decide (0 ≤ t136) = true := decide_eq_true c25
                  clear c25
                  by_cases c26 : ((rd_T53 l0_0 t136).f0) = a1
                  · rw [if_pos c26] at H
                    have c26b0 : (((rd_T53 l0_0 t136).f0) == a1) = true := beq_iff_eq.mpr c26
                    have c26b1 : (((rd_T53 l0_0 t136).f0) != a1) = false := bne_eq_false_iff_eq.mpr c26
                    clear c26
                    have H' := Aside0.mk H
                    clear H
                    have hnb27 := NB134_135.out
                    have hnc27 := NB135_134.out
                    have hcz28_0 : wc.cell? ⟨gb134, 0, none⟩ = some (.slice A0_0 l0_0.length c0_0) := (blk_cell BK134.out 0).trans rfl
                    have hfz28_0 := blk_frozen BK134.out 0
                    have p151 : 0 ≤ (t136 : Int) := of_decide_eq_true (by first | (with_reducible assumption) | assumption)
                    have q151 : t136 < (l0_0.length : Int) := of_decide_eq_true (by first | (with_reducible assumption) | assumption)
                    obtain ⟨ad151, A151_2, c151_2, e151, hx151_0, hx151_1, hx151_2, hl151_2, hi151_2⟩ := at_T53 (Kd.V_reads' HO_135000.out).2.2 t136 p151 q151
                    cases e151
                    obtain ⟨ce151, hce151, hMe151, hcc151⟩ := Kd.V_get HO_135000.out z53 t136 p151 (by first | exact q151 | exact of_decide_eq_true (by first | (with_reducible assumption) | assumption) | (have e_ := (Kd.V_reads' HO_135000.out).1; omega))
                    obtain ⟨ua151_2, uc151_2, rfl, ul151_2, ge151_2⟩ := k53_openF hMe151
                    have hv151_2 := hcc151 2 _ rfl
                    rw [add_field _ _ 2 (by omega)] at hv151_2
                    replace hv151_2 := Option.some.inj (hv151_2.symm.trans hx151_2)
                    injection hv151_2 with hva_ hvn_ hvc_
                    rw [hva_] at ge151_2
                    rw [hvc_] at ul151_2
                    have HL151_2 := Aside0.mk (show Kd.V k49 49 _ w.heap.size _ _ ((rd_T53 l0_0 t136).f2) from Kd.V_mk ul151_2 ge151_2)
                    clear hva_ hvn_ hvc_ ge151_2 ul151_2
                    clear hcc151 hce151
                    have HR151_2 := Aside0.mk hi151_2
                    have HC151_2 := Aside0.mk hl151_2
                    clear hi151_2 hl151_2
                    replace p151 := eq_true p151
                    replace q151 := eq_true q151
                    have p152 : 0 ≤ (t136 : Int) := of_decide_eq_true (by first | (with_reducible assumption) | assumption)
                    have q152 : t136 < (l0_0.length : Int) := of_decide_eq_true (by first | (with_reducible assumption) | assumption)
                    obtain ⟨ad152, A152_2, c152_2, e152, hx152_0, hx152_1, hx152_2, hl152_2, hi152_2⟩ := at_T53 (Kd.V_reads' HO_135000.out).2.2 t136 p152 q152
                    obtain rfl : ad151 = ad152 := (by injection e152)
                    obtain ⟨ce152, hce152, hMe152, hcc152⟩ := Kd.V_get HO_135000.out z53 t136 p152 (by first | exact q152 | exact of_decide_eq_true (by first | (with_reducible assumption) | assumption) | (have e_ := (Kd.V_reads' HO_135000.out).1; omega))
                    obtain ⟨ua152_2, uc152_2, rfl, ul152_2, ge152_2⟩ := k53_openF hMe152
                    have hv152_2 := hcc152 2 _ rfl
                    rw [add_field _ _ 2 (by omega)] at hv152_2
                    replace hv152_2 := Option.some.inj (hv152_2.symm.trans hx152_2)
                    injection hv152_2 with hva_ hvn_ hvc_
                    rw [hva_] at ge152_2
                    rw [hvc_] at ul152_2
                    have HL152_2 := Aside0.mk (show Kd.V k49 49 _ w.heap.size _ _ ((rd_T53 l0_0 t136).f2) from Kd.V_mk ul152_2 ge152_2)
                    clear hva_ hvn_ hvc_ ge152_2 ul152_2
                    clear hcc152 hce152
                    have HR152_2 := Aside0.mk hi152_2
                    have HC152_2 := Aside0.mk hl152_2
                    clear hi152_2 hl152_2
                    replace p152 := eq_true p152
                    replace q152 := eq_true q152
                    have ea_ := Option.some.inj (hx151_2.symm.trans hx152_2)
                    injection ea_ with ea_ en_ ec_
                    subst ea_
                    subst ec_
                    clear en_
                    go_wp2
                    go_meet
                    case rel => exact ⟨_, ((((rd_T53 l0_0 t136).f1) == a2)), (by first | rfl | (simp; done) | (simp [*]; done)), H', ⟨by have := HJ8.out; first | omega | exact Nat.le_refl _⟩, ⟨by (with_reducible repeat (first | apply Kd.N_alloc | apply Kd.N_drewN | apply Kd.N_drew)); exact HO_10.out⟩, ⟨by (with_reducible repeat (first | apply Kd.V_alloc | apply Kd.V_drewN | apply Kd.V_drew)); exact HO_135000.out⟩, ⟨by (with_reducible repeat (first | refine blk_drewN ?_ _ | refine blk_drew ?_ | refine blk_alloc ?_ _)); exact BK134.out⟩, ⟨by (with_reducible repeat (first | refine blk_drewN ?_ _ | refine blk_drew ?_ | refine blk_alloc ?_ _)); exact BK135.out⟩, ⟨by repeat (first | (with_reducible first | exact HB.out | apply below_alloc | apply pw_below_drewN | apply below_drew1 | refine below_set ?_ GE134.out | refine below_set ?_ GE135.out) | exact HB.out)⟩⟩
                  · rw [if_neg c26] at H
                    have c26b0 : (((rd_T53 l0_0 t136).f0) == a1) = false := beq_eq_false_iff_ne.mpr c26
                    have c26b1 : (((rd_T53 l0_0 t136).f0) != a1) = true := bne_iff_ne.mpr c26
                    have H' := Aside0.mk H
                    clear H
                    have hnb29 := NB134_135.out
                    have hnc29 := NB135_134.out
                    have hcz30_0 : wc.cell? ⟨gb134, 0, none⟩ = some (.slice A0_0 l0_0.length c0_0) := (blk_cell BK134.out 0).trans rfl
                    have hfz30_0 := blk_frozen BK134.out 0
                    have p151 : 0 ≤ (t136 : Int) := of_decide_eq_true (by first | (with_reducible assumption) | assumption)
                    have q151 : t136 < (l0_0.length : Int) := of_decide_eq_true (by first | (with_reducible assumption) | assumption)
                    obtain ⟨ad151, A151_2, c151_2, e151, hx151_0, hx151_1, hx151_2, hl151_2, hi151_2⟩ := at_T53 (Kd.V_reads' HO_135000.out).2.2 t136 p151 q151
                    cases e151
                    obtain ⟨ce151, hce151, hMe151, hcc151⟩ := Kd.V_get HO_135000.out z53 t136 p151 (by first | exact q151 | exact of_decide_eq_true (by first | (with_reducible assumption) | assumption) | (have e_ := (Kd.V_reads' HO_135000.out).1; omega))
                    obtain ⟨ua151_2, uc151_2, rfl, ul151_2, ge151_2⟩ := k53_openF hMe151
                    have hv151_2 := hcc151 2 _ rfl
                    rw [add_field _ _ 2 (by omega)] at hv151_2
                    replace hv151_2 := Option.some.inj (hv151_2.symm.trans hx151_2)
                    injection hv151_2 with hva_ hvn_ hvc_
                    rw [hva_] at ge151_2
                    rw [hvc_] at ul151_2
                    have HL151_2 := Aside0.mk (show Kd.V k49 49 _ w.heap.size _ _ ((rd_T53 l0_0 t136).f2) from Kd.V_mk ul151_2 ge151_2)
                    clear hva_ hvn_ hvc_ ge151_2 ul151_2
                    clear hcc151 hce151
                    have HR151_2 := Aside0.mk hi151_2
                    have HC151_2 := Aside0.mk hl151_2
                    clear hi151_2 hl151_2
                    replace p151 := eq_true p151
                    replace q151 := eq_true q151
                    go_wp2
                    go_meet
                    case rel => exact ⟨_, (false), (by first | rfl | (simp; done) | (simp [*]; done)), H', ⟨by have := HJ8.out; first | omega | exact Nat.le_refl _⟩, ⟨by (with_reducible repeat (first | apply Kd.N_alloc | apply Kd.N_drewN | apply Kd.N_drew)); exact HO_10.out⟩, ⟨by (with_reducible repeat (first | apply Kd.V_alloc | apply Kd.V_drewN | apply Kd.V_drew)); exact HO_135000.out⟩, ⟨by (with_reducible repeat (first | refine blk_drewN ?_ _ | refine blk_drew ?_ | refine blk_alloc ?_ _)); exact BK134.out⟩, ⟨by (with_reducible repeat (first | refine blk_drewN ?_ _ | refine blk_drew ?_ | refine blk_alloc ?_ _)); exact BK135.out⟩, ⟨by repeat (first | (with_reducible first | exact HB.out | apply below_alloc | apply pw_below_drewN | apply below_drew1 | refine below_set ?_ GE134.out | refine below_set ?_ GE135.out) | exact HB.out)⟩⟩
                · rw [if_neg c25] at H
                  exact absurd H (by simp)
              · rw [if_neg c24] at H
                have c24b0 : decide (t136 < (l0_0.length : Int)) = false := decide_eq_false c24
                clear c24
                (first | rw [c24b0] | (simp only [i64_w, i32_w]; rw [c24b0]) | rw [c24b1] | skip)
                have H' := Aside0.mk H
                clear H
                have hnb31 := NB134_135.out
                have hnc31 := NB135_134.out
                have hcz32_0 : wc.cell? ⟨gb134, 0, none⟩ = some (.slice A0_0 l0_0.length c0_0) := (blk_cell BK134.out 0).trans rfl
                have hfz32_0 := blk_frozen BK134.out 0
                go_wp2
                go_meet
                case rel => exact ⟨_, (false), (by first | rfl | (simp; done) | (simp [*]; done)), H', ⟨by have := HJ8.out; first | omega | exact Nat.le_refl _⟩, ⟨by (with_reducible repeat (first | apply Kd.N_alloc | apply Kd.N_drewN | apply Kd.N_drew)); exact HO_10.out⟩, ⟨by (with_reducible repeat (first | apply Kd.V_alloc | apply Kd.V_drewN | apply Kd.V_drew)); exact HO_135000.out⟩, ⟨by (with_reducible repeat (first | refine blk_drewN ?_ _ | refine blk_drew ?_ | refine blk_alloc ?_ _)); exact BK134.out⟩, ⟨by (with_reducible repeat (first | refine blk_drewN ?_ _ | refine blk_drew ?_ | refine blk_alloc ?_ _)); exact BK135.out⟩, ⟨by repeat (first | (with_reducible first | exact HB.out | apply below_alloc | apply pw_below_drewN | apply below_drew1 | refine below_set ?_ GE134.out | refine below_set ?_ GE135.out) | exact HB.out)⟩⟩
            case rest =>
              clear HC23
              try clear c1
              try clear p1
              try clear q1
              try clear hx1
              try clear c2
              try clear p2
              try clear c3
              try clear c4
              try clear c6
              try clear c6b0
              try clear c6b1
              try clear c7
              try clear c7b0
              try clear c7b1
              try clear c8
              try clear c12
              try clear c15
              try clear p15
              try clear q15
              try clear hx15
              try clear q18
              try clear c20
              try clear c20b0
              try clear c20b1
              try clear c21
              try clear c24
              try clear c24b0
              try clear c25
              try clear c25b0
              try clear c26
              try clear c26b0
              try clear c26b1
              try clear c27
              try clear c29
              try clear c31
              try clear hcz13_0
              try clear hcz17_0
              try clear hcz28_0
              try clear hcz30_0
              try clear hcz32_0
              try clear hfz13_0
              try clear hfz17_0
              try clear hfz28_0
              try clear hfz30_0
              try clear hfz32_0
              try clear hx151_0
              try clear hx151_1
              try clear hx151_2
              try clear hx152_0
              try clear hx152_1
              try clear hx152_2
              try clear p151
              try clear p152
              try clear p2
              try clear q1
              try clear q151
              try clear q152
              try clear q18
              obtain ⟨kq, x55_22, rfl, HA, HJ22, HO_10, HO_135000, BK134, BK135, HB⟩ := hcut
              cases kq with
              | zero => exact absurd HA.out (by simp [semvcsref25_Set.j1])
              | succ kj22 =>
                have H := HA.out
                clear HA
                simp only [semvcsref25_Set.j1] at H
                have HC33 := Aside0.mk H
                clear H
                go_upto_if 55 with (fail)
                go_cut [9] (fun v9 wc => ∃ (kq : Nat) (x9_32 : Int), v9 = .int .i64 x9_32 ∧ Aside0 (semvcsref25_Set.j2 kq x9_32 x10_8 l0_0 = some r) ∧ Aside0 (kq ≤ kj22) ∧ Aside0 (Kd.N k53 53 wc w.heap.size (fun k_ => ((P0_0_ k_ ∨ P3_ k_) ∨ w.heap.size ≤ k_) ∧ k_ ≠ gb134 ∧ k_ ≠ gb135) u10 x10_8) ∧ Aside0 (Kd.V k53 53 wc w.heap.size (fun k_ => ((P0_0_ k_ ∨ P3_ k_) ∨ w.heap.size ≤ k_) ∧ some k_ ≠ (u10 : Value).ownBlock ∧ k_ ≠ gb134 ∧ k_ ≠ gb135) (.slice A0_0 l0_0.length c0_0) l0_0) ∧ Aside0 (wc.heap[gb134]? = some (.cells #[(.slice A0_0 l0_0.length c0_0)] 25 (0, 0))) ∧ Aside0 (wc.heap[gb135]? = some (.cells #[(.slice none 0 0)] 25 (0, 0))) ∧ Aside0 (Below w.heap.size w wc))
                case first =>
                  have H := HC33.out
                  clear HC33
                  by_cases c34 : x55_22 = true
                  · subst c34
                    have H1 : (semvcsref25_Set.j2 kj22 (wrap64 (t136 + 1)) x10_8 l0_0) = some r := by rw [if_pos rfl] at H; exact H
                    clear H
                    have H := H1
                    clear H1
                    have H' := Aside0.mk H
                    clear H
                    go_wp2
                    go_meet
                    case rel => exact ⟨_, (wrap64 (t136 + 1)), (by first | rfl | (simp; done) | (simp [*]; done)), H', ⟨by have := HJ8.out; have := HJ22.out; first | omega | exact Nat.le_refl _⟩, ⟨by (with_reducible repeat (first | apply Kd.N_alloc | apply Kd.N_drewN | apply Kd.N_drew)); exact HO_10.out⟩, ⟨by (with_reducible repeat (first | apply Kd.V_alloc | apply Kd.V_drewN | apply Kd.V_drew)); exact HO_135000.out⟩, ⟨by (with_reducible repeat (first | refine blk_drewN ?_ _ | refine blk_drew ?_ | refine blk_alloc ?_ _)); exact BK134.out⟩, ⟨by (with_reducible repeat (first | refine blk_drewN ?_ _ | refine blk_drew ?_ | refine blk_alloc ?_ _)); exact BK135.out⟩, ⟨by repeat (first | (with_reducible first | exact HB.out | apply below_alloc | apply pw_below_drewN | apply below_drew1 | refine below_set ?_ GE134.out | refine below_set ?_ GE135.out) | exact HB.out)⟩⟩
                  · replace c34 := Bool.eq_false_iff.mpr c34
                    subst c34
                    have H1 : (semvcsref25_Set.j2 kj22 t136 x10_8 l0_0) = some r := by rw [if_neg (show ¬ (false = true) by decide)] at H; exact H
                    clear H
                    have H := H1
                    clear H1
                    have H' := Aside0.mk H
                    clear H
                    go_wp2
                    go_meet
                    case rel => exact ⟨_, (t136), (by first | rfl | (simp; done) | (simp [*]; done)), H', ⟨by have := HJ8.out; have := HJ22.out; first | omega | exact Nat.le_refl _⟩, ⟨by (with_reducible repeat (first | apply Kd.N_alloc | apply Kd.N_drewN | apply Kd.N_drew)); exact HO_10.out⟩, ⟨by (with_reducible repeat (first | apply Kd.V_alloc | apply Kd.V_drewN | apply Kd.V_drew)); exact HO_135000.out⟩, ⟨by (with_reducible repeat (first | refine blk_drewN ?_ _ | refine blk_drew ?_ | refine blk_alloc ?_ _)); exact BK134.out⟩, ⟨by (with_reducible repeat (first | refine blk_drewN ?_ _ | refine blk_drew ?_ | refine blk_alloc ?_ _)); exact BK135.out⟩, ⟨by repeat (first | (with_reducible first | exact HB.out | apply below_alloc | apply pw_below_drewN | apply below_drew1 | refine below_set ?_ GE134.out | refine below_set ?_ GE135.out) | exact HB.out)⟩⟩
                case rest =>
                  clear HC33
                  try clear c1
                  try clear p1
                  try clear q1
                  try clear hx1
                  try clear c2
                  try clear p2
                  try clear c3
                  try clear c4
                  try clear c6
                  try clear c6b0
                  try clear c6b1
                  try clear p6
                  try clear c7
                  try clear c7b0
                  try clear c7b1
                  try clear c8
                  try clear c12
                  try clear c15
                  try clear p15
                  try clear q15
                  try clear hx15
                  try clear q18
                  try clear c20
                  try clear c20b0
                  try clear c20b1
                  try clear c21
                  try clear c24
                  try clear c24b0
                  try clear c25
                  try clear c25b0
                  try clear c26
                  try clear c26b0
                  try clear c26b1
                  try clear c27
                  try clear c29
                  try clear c31
                  try clear c34
                  try clear hcz13_0
                  try clear hcz17_0
                  try clear hcz28_0
                  try clear hcz30_0
                  try clear hcz32_0
                  try clear hfz13_0
                  try clear hfz17_0
                  try clear hfz28_0
                  try clear hfz30_0
                  try clear hfz32_0
                  try clear hx151_0
                  try clear hx151_1
                  try clear hx151_2
                  try clear hx152_0
                  try clear hx152_1
                  try clear hx152_2
                  try clear p1
                  try clear p15
                  try clear p151
                  try clear p152
                  try clear p2
                  try clear q1
                  try clear q15
                  try clear q151
                  try clear q152
                  try clear q18
                  obtain ⟨kq, x9_32, rfl, HA, HJ32, HO_10, HO_135000, BK134, BK135, HB⟩ := hcut
                  cases kq with
                  | zero => exact absurd HA.out (by simp [semvcsref25_Set.j2])
                  | succ kj32 =>
                    have H := HA.out
                    clear HA
                    simp only [semvcsref25_Set.j2] at H
                    by_cases c35 : 0 ≤ x9_32
                    · rw [if_pos c35] at H
                      have c35b0 := eq_true c35
                      have c35b1 : decide (0 ≤ x9_32) = true := decide_eq_true c35
                      clear c35
                      by_cases c36 : x9_32 ≤ (l0_0.length : Int)
                      · rw [if_pos c36] at H
                        have c36b0 := eq_true c36
                        have c36b1 : decide (x9_32 ≤ (l0_0.length : Int)) = true := decide_eq_true c36
                        clear c36
                        obtain ⟨y153, hy153⟩ : ∃ y_ : List (S53), y_ = (l0_0.drop (x9_32 : Int).toNat) := ⟨_, rfl⟩
                        replace H : (if x10_8.length + y153.length < 3518437208883 then (some (x10_8 ++ y153)) else (none)) = some r := by first | (rw [hy153]; with_reducible exact H) | (have H2_ := (Option.bind_some _ _).symm.trans H; rw [hy153]; with_reducible exact H2_) | (have H2_ := (Option.bind_some _ _).symm.trans H; with_reducible exact H2_) | with_reducible exact H | (rw [hy153]; exact H) | exact H
                        have Ny153 := Aside0.mk hy153
                        clear hy153
                        by_cases c37 : x10_8.length + y153.length < 3518437208883
                        · rw [if_pos c37] at H
                          have LMc37 := Aside0.mk c37
                          clear c37
                          obtain ⟨y158, hy158⟩ : ∃ y_ : List (S53), y_ = (x10_8 ++ y153) := ⟨_, rfl⟩
                          replace H : (some y158) = some r := by first | (rw [hy158]; with_reducible exact H) | (have H2_ := (Option.bind_some _ _).symm.trans H; rw [hy158]; with_reducible exact H2_) | (have H2_ := (Option.bind_some _ _).symm.trans H; with_reducible exact H2_) | with_reducible exact H | (rw [hy158]; exact H) | exact H
                          have Ny158 := Aside0.mk hy158
                          clear hy158
                          obtain rfl := Option.some.inj H
                          have hnb38 := NB134_135.out
                          have hnc38 := NB135_134.out
                          have hcz39_0 : wc.cell? ⟨gb134, 0, none⟩ = some (.slice A0_0 l0_0.length c0_0) := (blk_cell BK134.out 0).trans rfl
                          have hfz39_0 := blk_frozen BK134.out 0
                          have q40 : (x9_32 : Int) ≤ ((l0_0.length : Int) : Int) := of_decide_eq_true (by first | (with_reducible assumption) | assumption)
                          obtain ⟨i040, hi040, _, hsz40, _⟩ := info_parts info53
                          have hroom40 : l0_0.length ≤ c0_0 := (Kd.V_reads' HO_135000.out).2.1
                          have hC40 : Kd.F k53 _ _ A0_0 l0_0.length l0_0 := (Kd.V_at (base := w.heap.size) HO_135000.out).2.2
                          have q040 : (0 : Int) ≤ (x9_32 : Int) := of_decide_eq_true (by first | (with_reducible assumption) | assumption)
                          have hcut40 := cut_from (P := Try.prog) 23 53 .i64 Try.underlying23 hi040 3 hsz40 A0_0 l0_0.length c0_0 x9_32 q040 q40
                          have hr40 := Kd.F_cut (m := (x9_32 : Int).toNat) (c := c0_0) hC40 (by omega) hroom40
                          obtain ⟨A40, hA40⟩ : ∃ A1, A1 = (if c0_0 = (x9_32 : Int).toNat then A0_0 else (A0_0 : Option Addr).map (·.add ((x9_32 : Int).toNat * 3))) := ⟨_, rfl⟩
                          obtain ⟨c40, hc40⟩ : ∃ c1, c1 = c0_0 - (x9_32 : Int).toNat := ⟨_, rfl⟩
                          have hy40 : y153.length = l0_0.length - (x9_32 : Int).toNat := (by rw [Ny153.out, List.length_drop] <;> omega)
                          rw [show (l0_0).drop (x9_32 : Int).toNat = y153 from Ny153.out.symm] at hr40
                          replace hr40 : Kd.F k53 _ _ A40 y153.length y153 := (by rw [hA40]; exact hr40)
                          rw [← hy40, ← hA40, ← hc40] at hcut40
                          have HO157 := Aside0.mk (show Kd.V k53 53 _ w.heap.size _ (.slice A40 y153.length c40) y153 from Kd.V_mk (by rw [hy40, hc40]; exact Nat.sub_le_sub_right hroom40 _) hr40)
                          have HC157 := Aside0.mk (show y153.length ≤ c40 from by rw [hy40, hc40]; exact Nat.sub_le_sub_right hroom40 _)
                          clear hr40 hC40 hroom40 hi040 hsz40 hc40
                          have KY40 := Aside0.mk hy40
                          have KA40 := Aside0.mk hA40
                          clear hy40 hA40
                          replace q40 := eq_true q40
                          go_wp2_with (first | ((with_reducible refine gate_builtin (b := .append) (xs := #[.tmp 58, .tmp 62]) rfl ?_); at_builtin; refine Kd.N_append_rows k53 (w0 := w) w.heap.size rfl (.tmp 58) (.tmp 62) 23 53 (.agg #[(.int .i64 0), (.int .i64 0), (.slice none 0 0)]) 40 rfl Try.underlying23 info53 rfl (by decide) (by omega) u10 x10_8 y153 _ _ _ (fun k_ => ((P0_0_ k_ ∨ P3_ k_) ∨ w.heap.size ≤ k_) ∧ k_ ≠ gb134 ∧ k_ ≠ gb135) (fun k_ => ((fun k_ => ((P0_0_ k_ ∨ P3_ k_) ∨ w.heap.size ≤ k_) ∧ k_ ≠ gb134 ∧ k_ ≠ gb135)) k_ ∧ some k_ ≠ (u10 : Value).ownBlock) rfl rfl ?aO ?aR (fun _ hk => hk) ?aF ?aB ?aS ?aL ?_; (case aR => exact (by skip; exact Kd.V_F (Kd.V_mono (ok' := (fun k_ => ((fun k_ => ((P0_0_ k_ ∨ P3_ k_) ∨ w.heap.size ≤ k_) ∧ k_ ≠ gb134 ∧ k_ ≠ gb135)) k_ ∧ some k_ ≠ (u10 : Value).ownBlock)) (HO157.out) (fun k_ hk => ⟨⟨hk.1, ⟨hk.2.2.1, hk.2.2.2⟩⟩, hk.2.1⟩)))); (case aB => exact (by repeat (first | (with_reducible first | exact HB.out | apply below_alloc | apply pw_below_drewN | apply below_drew1 | refine below_set ?_ GE134.out | refine below_set ?_ GE135.out) | exact HB.out))); (case aF => exact (fun k_ hk => ⟨(.inr (Nat.le_trans (below_size (by repeat (first | (with_reducible first | exact HB.out | apply below_alloc | apply pw_below_drewN | apply below_drew1 | refine below_set ?_ GE134.out | refine below_set ?_ GE135.out) | exact HB.out))) hk)), Kd.freshB (g := gb134) (o := .cells #[.slice A0_0 l0_0.length c0_0] 25 (0, 0)) (by (with_reducible repeat (first | refine blk_drewN ?_ _ | refine blk_drew ?_ | refine blk_alloc ?_ _)); exact BK134.out) k_ hk, Kd.freshB (g := gb135) (o := .cells #[.slice none 0 0] 25 (0, 0)) (by (with_reducible repeat (first | refine blk_drewN ?_ _ | refine blk_drew ?_ | refine blk_alloc ?_ _)); exact BK135.out) k_ hk⟩)); (case aO => exact (by (with_reducible repeat (first | apply Kd.N_alloc | apply Kd.N_drewN | apply Kd.N_drew)); exact HO_10.out)); (case aS => exact (below_size (by repeat (first | (with_reducible first | exact HB.out | apply below_alloc | apply pw_below_drewN | apply below_drew1 | refine below_set ?_ GE134.out | refine below_set ?_ GE135.out) | exact HB.out)))); (case aL => have := LMc37.out; omega); intro v159 w41 ho hb hg hat; rw [← Ny158.out] at ho; have n0_ := Aside0.mk (Kd.V_afterv (ok := (fun k_ => ((P0_0_ k_ ∨ P3_ k_) ∨ w.heap.size ≤ k_) ∧ k_ ≠ gb134 ∧ k_ ≠ gb135)) (by (with_reducible repeat (first | apply Kd.V_alloc | apply Kd.V_drewN | apply Kd.V_drew)); exact Kd.V_mono HO_135000.out (fun _ hk => ⟨⟨hk.1, ⟨hk.2.2.1, hk.2.2.2⟩⟩, hk.2.1⟩)) hg hat); have n1_ := Aside0.mk (blk_grown (g := gb134) (o := .cells #[.slice A0_0 l0_0.length c0_0] 25 (0, 0)) (by (with_reducible repeat (first | refine blk_drewN ?_ _ | refine blk_drew ?_ | refine blk_alloc ?_ _)); exact BK134.out) hg (Kd.N_ne HO_10.out BK134.out (by decide))); have n2_ := Aside0.mk (blk_grown (g := gb135) (o := .cells #[.slice none 0 0] 25 (0, 0)) (by (with_reducible repeat (first | refine blk_drewN ?_ _ | refine blk_drew ?_ | refine blk_alloc ?_ _)); exact BK135.out) hg (Kd.N_ne HO_10.out BK135.out (by decide))); have n3_ := Aside0.mk (Kd.V_afterv (ok := (fun k_ => ((P0_0_ k_ ∨ P3_ k_) ∨ w.heap.size ≤ k_) ∧ k_ ≠ gb134 ∧ k_ ≠ gb135)) (by (with_reducible repeat (first | apply Kd.V_alloc | apply Kd.V_drewN | apply Kd.V_drew)); exact Kd.V_mono HO157.out (fun _ hk => ⟨⟨hk.1, ⟨hk.2.2.1, hk.2.2.2⟩⟩, hk.2.1⟩)) hg hat); have n4_ := Aside0.mk (hb); have n5_ := Aside0.mk (ho); clear HO_135000; clear BK134; clear BK135; clear HO157; clear HB; clear HO_10; have HO_135000 := n0_; have BK134 := n1_; have BK135 := n2_; have HO157 := n3_; have HB := n4_; have HO160 := n5_; clear n0_ n1_ n2_ n3_ n4_ n5_; clear ho hb hg hat; obtain ⟨Ao42, co42, eo42⟩ := Kd.N_slice HO160.out; subst eo42; have hcz43_0 : w41.cell? ⟨gb135, 0, none⟩ = some (.slice none 0 0) := (blk_cell BK135.out 0).trans rfl; have hfz43_0 := blk_frozen BK135.out 0))
                          refine bodyPost_ret (results_cell_row rfl _ _ gb135 25 #[.slice Ao42 y158.length co42] (0, 0) _ rfl (by (with_reducible repeat (first | refine blk_drewN ?_ _ | refine blk_drew ?_ | refine blk_alloc ?_ _)); refine blk_put (cs := #[.slice none 0 0]) ?_ 0 _ rfl; (with_reducible repeat (first | refine blk_drewN ?_ _ | refine blk_drew ?_ | refine blk_alloc ?_ _)); exact BK135.out) Try.underlying25 rfl (by kernel_rfl)) rfl ?_
                          exact ⟨_, by first | rfl | (simp [errW_none, errW_some] <;> rfl) | (simp [*, errW_none, errW_some] <;> rfl), by (with_reducible repeat (first | apply Kd.N_alloc | apply Kd.N_drewN | apply Kd.N_drew)); exact Kd.N_mono (Kd.N_far (p := ⟨gb135, 0, none⟩) (Kd.N_mono HO160.out (fun k_ hk => (⟨hk, hk.2.2⟩ : _ ∧ k_ ≠ gb135))) (fun _ hk => hk.2) (.slice Ao42 y158.length co42)) (fun _ hk => hk.1.1), by repeat (first | (with_reducible first | exact HB.out | apply below_alloc | apply pw_below_drewN | apply below_drew1 | refine below_set ?_ GE134.out | refine below_set ?_ GE135.out) | exact HB.out)⟩
                        · rw [if_neg c37] at H
                          exact absurd H (by simp)
                      · rw [if_neg c36] at H
                        exact absurd H (by simp)
                    · rw [if_neg c35] at H
                      exact absurd H (by simp)
      · rw [if_neg c8] at H
        exact absurd H (by simp)
    · rw [if_neg c7] at H
      exact absurd H (by simp)
  · rw [if_neg c6] at H
    exact absurd H (by simp)

end Go.Proofs.Ytcecekmhikmkhaa.M
