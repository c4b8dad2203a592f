/- The walk of the statement's function Merge3Changes (function 4): it holds where the states and what Changed and Both return are as said. -/
import Derived.Test.YtcecekmhikmkhaaHb
import Derived.Test.YtcecekmhikmkhaaMx6
import Derived.Test.YtcecekmhikmkhaaHf
import Derived.Test.YtcecekmhikmkhaaMs
namespace Go.Proofs.Ytcecekmhikmkhaa.M
open Go.RowKit Go.Proofs.YtcecekmhikmkhaaW.PrintWords Go.Proofs.YtcecekmhikmkhaaW.PrintLast Go.Proofs.YtcecekmhikmkhaaW.PrintMore
set_option linter.unusedVariables false
set_option linter.unusedSimpArgs false
theorem three (w : World) (o0 o1 o2 : Obj) : (((w.alloc o0).alloc o1).alloc o2).heap[w.heap.size]? = some o0 ∧ (((w.alloc o0).alloc o1).alloc o2).heap[w.heap.size + 1]? = some o1 ∧ (((w.alloc o0).alloc o1).alloc o2).heap[w.heap.size + 1 + 1]? = some o2 ∧ Below w.heap.size w (((w.alloc o0).alloc o1).alloc o2) := by
  refine ⟨blk_alloc (blk_alloc (blk_new _ _) _) _, ?_, ?_, below_alloc (below_alloc (below_alloc (Below.refl _ _) _) _) _⟩
  · have := blk_alloc (blk_new (w.alloc o0) o1) o2
    simpa only [World.size_alloc] using this
  · have := blk_new ((w.alloc o0).alloc o1) o2
    simpa only [World.size_alloc] using this
set_option maxRecDepth 100000 in
set_option maxHeartbeats 8000000 in
theorem law_changes_calls (k : Nat) (A0 : Option Addr) (c0 : Nat) (l0 : List S44) (A1 : Option Addr) (c1 : Nat) (l1 : List S44) (A2 : Option Addr) (c2 : Nat) (l2 : List S44) (w : World) (hr0 : Kd.C k44 w A0 l0.length l0) (hc0 : l0.length ≤ c0) (hr1 : Kd.C k44 w A1 l1.length l1) (hc1 : l1.length ≤ c1) (hr2 : Kd.C k44 w A2 l2.length l2) (hc2 : l2.length ≤ c2)
    (o x y : List S53) (m n : List S36) (H0 : semvcsmade2_State.f k l0 = some o) (H1 : semvcsmade2_State.f k l1 = some x) (H2 : semvcsmade2_State.f k l2 = some y) (HM : merge3_Changed.f o x = some m) (HF : semvcsref28_Changed.f k o x = some m) (HS : semvcslaw28_sameSpots.f k m m = some true) (HM2 : merge3_Both.f o x y = some n) (HF2 : semvcsref28_Both.f k o x y = some n) (HS2 : semvcslaw28_sameSpots.f k n n = some true) :
    Calls Try.prog 4 #[.slice A0 l0.length c0, .slice A1 l1.length c1, .slice A2 l2.length c2] w fun e w' => e = .returned (.bool true) ∧ Below w.heap.size w w' := by
  have HC0 := Aside0.mk (And.intro hc0 (And.intro hc1 hc2))
  have HR0 := Aside0.mk hr0
  have HR1 := Aside0.mk hr1
  have HR2 := Aside0.mk hr2
  clear hr0 hr1 hr2 hc0 hc1 hc2
  go_enter Try.func4, Try.ntmps4
  go_wp2_with fail
  refine (semvcsmade2_State.calls k A0 c0 l0 o _ HR0.out HC0.out.1 H0).mono ?_
  rintro e w1 ⟨v1, rfl, hn1, hb1⟩
  obtain ⟨Ao, co, rfl⟩ := Kd.N_slice hn1
  have G1 := Aside0.mk hb1
  have N1 := Aside0.mk (Kd.N_reads' hn1)
  clear hn1 hb1
  go_wp2_with fail
  refine (semvcsmade2_State.calls k A1 c1 l1 x _ (Kd.C_below HR1.out G1.out) HC0.out.2.1 H1).mono ?_
  rintro e w2 ⟨v2, rfl, hn2, hb2⟩
  obtain ⟨Ax, cx, rfl⟩ := Kd.N_slice hn2
  have G2 := Aside0.mk (below_step G1.out hb2)
  have N2 := Aside0.mk (Kd.N_reads' hn2)
  have N12 := Aside0.mk (Kd.C_below N1.out.2.2 hb2)
  clear hn2 hb2
  go_wp2_with fail
  refine (semvcsmade2_State.calls k A2 c2 l2 y _ (Kd.C_below HR2.out G2.out) HC0.out.2.2 H2).mono ?_
  rintro e w3 ⟨v3, rfl, hn3, hb3⟩
  obtain ⟨Ay, cy, rfl⟩ := Kd.N_slice hn3
  have G3 := Aside0.mk (below_step G2.out hb3)
  have C3 := Aside0.mk (Kd.N_reads' hn3).2.2
  have L3 := Aside0.mk (And.intro N1.out.2.1 (And.intro N2.out.2.1 (Kd.N_reads' hn3).2.1))
  have C2 := Aside0.mk (Kd.C_below N2.out.2.2 hb3)
  have C1 := Aside0.mk (Kd.C_below N12.out hb3)
  clear hn3 hb3 N1 N2 N12 G1 G2
  go_wp2_with fail
  obtain ⟨q0, q1, q2, hbz⟩ := three w3 (.cells #[.slice Ao o.length co] 25) (.cells #[.slice Ax x.length cx] 25) (.cells #[.slice Ay y.length cy] 25)
  have B1 := Aside0.mk (Kd.C_below C1.out hbz)
  have B2 := Aside0.mk (Kd.C_below C2.out hbz)
  have B3 := Aside0.mk (Kd.C_below C3.out hbz)
  have GZ := Aside0.mk (below_step G3.out hbz)
  clear hbz C1 C2 C3 G3
  generalize (((w3.alloc (.cells #[.slice Ao o.length co] 25)).alloc (.cells #[.slice Ax x.length cx] 25)).alloc (.cells #[.slice Ay y.length cy] 25)) = wz at q0 q1 q2 B1 B2 B3 GZ ⊢
  generalize w3.heap.size = bz at q0 q1 q2 ⊢
  refine start_ (n := 22) (S := fun w' => w'.cell? ⟨bz, 0, none⟩ = some (.slice Ao o.length co) ∧ w'.cell? ⟨bz + 1, 0, none⟩ = some (.slice Ax x.length cx) ∧ w'.cell? ⟨bz + 1 + 1, 0, none⟩ = some (.slice Ay y.length cy)) (ds := []) #[false, false, false, false, false, false, false, false, false, false, false, false, false, false, false, false, false, false, false, false, false, false] (by kernel_rfl) rfl rfl ⟨(blk_cell q0 0).trans rfl, (blk_cell q1 0).trans rfl, (blk_cell q2 0).trans rfl⟩ (fun hHeld => ?_)
  refine take_ (i := 0) (N := some 16) (v := ?_) (a' := ?_) #[true, false, false, false, false, false, false, false, false, false, false, false, false, false, false, false, false, false, false, false, false, false] rfl rfl (by kernel_rfl) (fun _ _ _ h => h) (Or.inl ⟨by rfl, ?_⟩) hHeld ?_ ?_
  rotate_left
  · rintro w' ⟨s0, s1, s2⟩
    go_simp
    with_reducible rfl
  rotate_left
  · simp only [Act.put, List.setIfInBounds_toArray, List.set_cons_zero, List.set_cons_succ, i64_w, i32_w]
    rfl
  refine take_ (i := 1) (N := some 17) (v := ?_) (a' := ?_) #[true, true, false, false, false, false, false, false, false, false, false, false, false, false, false, false, false, false, false, false, false, false] rfl rfl (by kernel_rfl) (fun _ _ _ h => h) (Or.inl ⟨by rfl, ?_⟩) hHeld ?_ ?_
  rotate_left
  · rintro w' ⟨s0, s1, s2⟩
    go_simp
    with_reducible rfl
  rotate_left
  · simp only [Act.put, List.setIfInBounds_toArray, List.set_cons_zero, List.set_cons_succ, i64_w, i32_w]
    rfl
  refine take_ (i := 3) (N := some 19) (v := ?_) (a' := ?_) #[true, true, false, true, false, false, false, false, false, false, false, false, false, false, false, false, false, false, false, false, false, false] rfl rfl (by kernel_rfl) (fun _ _ _ h => h) (Or.inl ⟨by rfl, ?_⟩) hHeld ?_ ?_
  rotate_left
  · rintro w' ⟨s0, s1, s2⟩
    go_simp
    with_reducible rfl
  rotate_left
  · simp only [Act.put, List.setIfInBounds_toArray, List.set_cons_zero, List.set_cons_succ, i64_w, i32_w]
    rfl
  refine take_ (i := 4) (N := some 20) (v := ?_) (a' := ?_) #[true, true, false, true, true, false, false, false, false, false, false, false, false, false, false, false, false, false, false, false, false, false] rfl rfl (by kernel_rfl) (fun _ _ _ h => h) (Or.inl ⟨by rfl, ?_⟩) hHeld ?_ ?_
  rotate_left
  · rintro w' ⟨s0, s1, s2⟩
    go_simp
    with_reducible rfl
  rotate_left
  · simp only [Act.put, List.setIfInBounds_toArray, List.set_cons_zero, List.set_cons_succ, i64_w, i32_w]
    rfl
  refine one_ (i := 2) (N := some 18) #[true, true, true, true, true, false, false, false, false, false, false, false, false, false, false, false, false, false, false, false, false, false] rfl rfl (by kernel_rfl) (by decide) (fun K hK => ?_)
  refine goes_ Try.func13 (by kernel_rfl) rfl #[.agg #[.slice Ao o.length co], .agg #[.slice Ax x.length cx]] (by rfl) rfl rfl (by simp only [List.map_toArray, List.map_cons, List.map_nil]; rfl) ?_
  refine (merge3_Changed.calls Ao co o Ax cx x m _ (Kd.C_below B1.out (below_drew (Below.refl _ wz))) L3.out.1 (Kd.C_below B2.out (below_drew (Below.refl _ wz))) L3.out.2.1 HM).mono ?_
  rintro e w4 ⟨v4, rfl, hk4, hb4⟩
  obtain ⟨A4, c4, rfl⟩ := Kd.R_slice hk4
  have g4 := below_step (below_drew (Below.refl _ wz)) hb4
  refine ⟨_, rfl, ?_⟩
  refine hK.out _ _ ⟨pw_cell_below hb4 (hHeld.1), pw_cell_below hb4 (hHeld.2.1), pw_cell_below hb4 (hHeld.2.2)⟩ (fun hHeld => ?_)
  clear hK K
  refine norm_ (a' := ?_) ?_ ?_
  rotate_left
  · show Act.put _ (some 18) _ = _
    simp only [Act.put, List.setIfInBounds_toArray, List.set_cons_zero, List.set_cons_succ, i64_w, i32_w]
    rfl
  refine one_ (i := 5) (N := some 21) #[true, true, true, true, true, true, false, false, false, false, false, false, false, false, false, false, false, false, false, false, false, false] rfl rfl (by kernel_rfl) (by decide) (fun K hK => ?_)
  refine goes_ Try.func14 (by kernel_rfl) rfl #[.agg #[.slice Ao o.length co], .agg #[.slice Ax x.length cx]] (by rfl) rfl rfl (by simp only [List.map_toArray, List.map_cons, List.map_nil]; rfl) ?_
  refine (semvcsref28_Changed.calls k Ao co o Ax cx x m _ (Kd.C_below B1.out g4) L3.out.1 (Kd.C_below B2.out g4) L3.out.2.1 HF).mono ?_
  rintro e w5 ⟨v5, rfl, hk5, hb5⟩
  obtain ⟨A5, c5, rfl⟩ := Kd.R_slice hk5
  have g5 := below_step g4 hb5
  refine ⟨_, rfl, ?_⟩
  refine hK.out _ _ ⟨pw_cell_below hb5 (hHeld.1), pw_cell_below hb5 (hHeld.2.1), pw_cell_below hb5 (hHeld.2.2)⟩ (fun hHeld => ?_)
  clear hK K
  refine norm_ (a' := ?_) ?_ ?_
  rotate_left
  · show Act.put _ (some 21) _ = _
    simp only [Act.put, List.setIfInBounds_toArray, List.set_cons_zero, List.set_cons_succ, i64_w, i32_w]
    rfl
  refine one_ (i := 6) (N := some 22) #[true, true, true, true, true, true, true, false, false, false, false, false, false, false, false, false, false, false, false, false, false, false] rfl rfl (by kernel_rfl) (by decide) (fun K hK => ?_)
  refine goes_ Try.func12 (by kernel_rfl) rfl #[.slice A4 m.length c4, .slice A5 m.length c5] (by rfl) rfl rfl (by simp only [List.map_toArray, List.map_cons, List.map_nil]; rfl) ?_
  refine (semvcslaw28_sameSpots.calls k A4 c4 m A5 c5 m true _ (Kd.C_below (Kd.R_reads' hk4).2.2 hb5) (Kd.R_reads' hk4).2.1 (Kd.R_reads' hk5).2.2 (Kd.R_reads' hk5).2.1 HS).mono ?_
  rintro e w6 ⟨rfl, hd6⟩
  have g6 := below_step g5 hd6.below
  refine ⟨_, rfl, ?_⟩
  refine hK.out _ _ ⟨pw_cell_below hd6.below (hHeld.1), pw_cell_below hd6.below (hHeld.2.1), pw_cell_below hd6.below (hHeld.2.2)⟩ (fun hHeld => ?_)
  clear hK K
  refine norm_ (a' := ?_) ?_ ?_
  rotate_left
  · show Act.put _ (some 22) _ = _
    simp only [Act.put, List.setIfInBounds_toArray, List.set_cons_zero, List.set_cons_succ, i64_w, i32_w]
    rfl
  refine pure_ (i := 7) (N := some 23) (v := ?_) (a' := ?_) #[true, true, true, true, true, true, true, true, false, false, false, false, false, false, false, false, false, false, false, false, false, false] rfl rfl (by kernel_rfl) (fun _ _ _ h => h) (Or.inl ⟨by rfl, ?_⟩) ?_ ?_
  rotate_left
  · intro w'
    go_simp
    with_reducible rfl
  rotate_left
  · simp only [Act.put, List.setIfInBounds_toArray, List.set_cons_zero, List.set_cons_succ, i64_w, i32_w]
    rfl
  refine take_ (i := 8) (N := some 24) (v := ?_) (a' := ?_) #[true, true, true, true, true, true, true, true, true, false, false, false, false, false, false, false, false, false, false, false, false, false] rfl rfl (by kernel_rfl) (fun _ _ _ h => h) (Or.inl ⟨by rfl, ?_⟩) hHeld ?_ ?_
  rotate_left
  · rintro w' ⟨s0, s1, s2⟩
    go_simp
    with_reducible rfl
  rotate_left
  · simp only [Act.put, List.setIfInBounds_toArray, List.set_cons_zero, List.set_cons_succ, i64_w, i32_w]
    rfl
  refine take_ (i := 9) (N := some 25) (v := ?_) (a' := ?_) #[true, true, true, true, true, true, true, true, true, true, false, false, false, false, false, false, false, false, false, false, false, false] rfl rfl (by kernel_rfl) (fun _ _ _ h => h) (Or.inl ⟨by rfl, ?_⟩) hHeld ?_ ?_
  rotate_left
  · rintro w' ⟨s0, s1, s2⟩
    go_simp
    with_reducible rfl
  rotate_left
  · simp only [Act.put, List.setIfInBounds_toArray, List.set_cons_zero, List.set_cons_succ, i64_w, i32_w]
    rfl
  refine take_ (i := 10) (N := some 26) (v := ?_) (a' := ?_) #[true, true, true, true, true, true, true, true, true, true, true, false, false, false, false, false, false, false, false, false, false, false] rfl rfl (by kernel_rfl) (fun _ _ _ h => h) (Or.inl ⟨by rfl, ?_⟩) hHeld ?_ ?_
  rotate_left
  · rintro w' ⟨s0, s1, s2⟩
    go_simp
    with_reducible rfl
  rotate_left
  · simp only [Act.put, List.setIfInBounds_toArray, List.set_cons_zero, List.set_cons_succ, i64_w, i32_w]
    rfl
  refine take_ (i := 12) (N := some 28) (v := ?_) (a' := ?_) #[true, true, true, true, true, true, true, true, true, true, true, false, true, false, false, false, false, false, false, false, false, false] rfl rfl (by kernel_rfl) (fun _ _ _ h => h) (Or.inl ⟨by rfl, ?_⟩) hHeld ?_ ?_
  rotate_left
  · rintro w' ⟨s0, s1, s2⟩
    go_simp
    with_reducible rfl
  rotate_left
  · simp only [Act.put, List.setIfInBounds_toArray, List.set_cons_zero, List.set_cons_succ, i64_w, i32_w]
    rfl
  refine take_ (i := 13) (N := some 29) (v := ?_) (a' := ?_) #[true, true, true, true, true, true, true, true, true, true, true, false, true, true, false, false, false, false, false, false, false, false] rfl rfl (by kernel_rfl) (fun _ _ _ h => h) (Or.inl ⟨by rfl, ?_⟩) hHeld ?_ ?_
  rotate_left
  · rintro w' ⟨s0, s1, s2⟩
    go_simp
    with_reducible rfl
  rotate_left
  · simp only [Act.put, List.setIfInBounds_toArray, List.set_cons_zero, List.set_cons_succ, i64_w, i32_w]
    rfl
  refine take_ (i := 14) (N := some 30) (v := ?_) (a' := ?_) #[true, true, true, true, true, true, true, true, true, true, true, false, true, true, true, false, false, false, false, false, false, false] rfl rfl (by kernel_rfl) (fun _ _ _ h => h) (Or.inl ⟨by rfl, ?_⟩) hHeld ?_ ?_
  rotate_left
  · rintro w' ⟨s0, s1, s2⟩
    go_simp
    with_reducible rfl
  rotate_left
  · simp only [Act.put, List.setIfInBounds_toArray, List.set_cons_zero, List.set_cons_succ, i64_w, i32_w]
    rfl
  refine one_ (i := 11) (N := some 27) #[true, true, true, true, true, true, true, true, true, true, true, true, true, true, true, false, false, false, false, false, false, false] rfl rfl (by kernel_rfl) (by decide) (fun K hK => ?_)
  refine goes_ Try.func15 (by kernel_rfl) rfl #[.agg #[.slice Ao o.length co], .agg #[.slice Ax x.length cx], .agg #[.slice Ay y.length cy]] (by rfl) rfl rfl (by simp only [List.map_toArray, List.map_cons, List.map_nil]; rfl) ?_
  refine (merge3_Both.calls Ao co o Ax cx x Ay cy y n _ (Kd.C_below B1.out g6) L3.out.1 (Kd.C_below B2.out g6) L3.out.2.1 (Kd.C_below B3.out g6) L3.out.2.2 HM2).mono ?_
  rintro e w7 ⟨v7, rfl, hk7, hb7⟩
  obtain ⟨A7, c7, rfl⟩ := Kd.R_slice hk7
  have g7 := below_step g6 hb7
  refine ⟨_, rfl, ?_⟩
  refine hK.out _ _ ⟨pw_cell_below hb7 (hHeld.1), pw_cell_below hb7 (hHeld.2.1), pw_cell_below hb7 (hHeld.2.2)⟩ (fun hHeld => ?_)
  clear hK K
  refine norm_ (a' := ?_) ?_ ?_
  rotate_left
  · show Act.put _ (some 27) _ = _
    simp only [Act.put, List.setIfInBounds_toArray, List.set_cons_zero, List.set_cons_succ, i64_w, i32_w]
    rfl
  refine one_ (i := 15) (N := some 31) #[true, true, true, true, true, true, true, true, true, true, true, true, true, true, true, true, false, false, false, false, false, false] rfl rfl (by kernel_rfl) (by decide) (fun K hK => ?_)
  refine goes_ Try.func16 (by kernel_rfl) rfl #[.agg #[.slice Ao o.length co], .agg #[.slice Ax x.length cx], .agg #[.slice Ay y.length cy]] (by rfl) rfl rfl (by simp only [List.map_toArray, List.map_cons, List.map_nil]; rfl) ?_
  refine (semvcsref28_Both.calls k Ao co o Ax cx x Ay cy y n _ (Kd.C_below B1.out g7) L3.out.1 (Kd.C_below B2.out g7) L3.out.2.1 (Kd.C_below B3.out g7) L3.out.2.2 HF2).mono ?_
  rintro e w8 ⟨v8, rfl, hk8, hb8⟩
  obtain ⟨A8, c8, rfl⟩ := Kd.R_slice hk8
  have g8 := below_step g7 hb8
  refine ⟨_, rfl, ?_⟩
  refine hK.out _ _ ⟨pw_cell_below hb8 (hHeld.1), pw_cell_below hb8 (hHeld.2.1), pw_cell_below hb8 (hHeld.2.2)⟩ (fun hHeld => ?_)
  clear hK K
  refine norm_ (a' := ?_) ?_ ?_
  rotate_left
  · show Act.put _ (some 31) _ = _
    simp only [Act.put, List.setIfInBounds_toArray, List.set_cons_zero, List.set_cons_succ, i64_w, i32_w]
    rfl
  refine one_ (i := 16) (N := some 32) #[true, true, true, true, true, true, true, true, true, true, true, true, true, true, true, true, true, false, false, false, false, false] rfl rfl (by kernel_rfl) (by decide) (fun K hK => ?_)
  refine goes_ Try.func12 (by kernel_rfl) rfl #[.slice A7 n.length c7, .slice A8 n.length c8] (by rfl) rfl rfl (by simp only [List.map_toArray, List.map_cons, List.map_nil]; rfl) ?_
  refine (semvcslaw28_sameSpots.calls k A7 c7 n A8 c8 n true _ (Kd.C_below (Kd.R_reads' hk7).2.2 hb8) (Kd.R_reads' hk7).2.1 (Kd.R_reads' hk8).2.2 (Kd.R_reads' hk8).2.1 HS2).mono ?_
  rintro e w9 ⟨rfl, hd9⟩
  have g9 := below_step g8 hd9.below
  refine ⟨_, rfl, ?_⟩
  refine hK.out _ _ ⟨pw_cell_below hd9.below (hHeld.1), pw_cell_below hd9.below (hHeld.2.1), pw_cell_below hd9.below (hHeld.2.2)⟩ (fun hHeld => ?_)
  clear hK K
  refine norm_ (a' := ?_) ?_ ?_
  rotate_left
  · show Act.put _ (some 32) _ = _
    simp only [Act.put, List.setIfInBounds_toArray, List.set_cons_zero, List.set_cons_succ, i64_w, i32_w]
    rfl
  refine pure_ (i := 17) (N := some 33) (v := ?_) (a' := ?_) #[true, true, true, true, true, true, true, true, true, true, true, true, true, true, true, true, true, true, false, false, false, false] rfl rfl (by kernel_rfl) (fun _ _ _ h => h) (Or.inl ⟨by rfl, ?_⟩) ?_ ?_
  rotate_left
  · intro w'
    go_simp
    with_reducible rfl
  rotate_left
  · simp only [Act.put, List.setIfInBounds_toArray, List.set_cons_zero, List.set_cons_succ, i64_w, i32_w]
    rfl
  refine pure_ (i := 18) (N := some 34) (v := ?_) (a' := ?_) #[true, true, true, true, true, true, true, true, true, true, true, true, true, true, true, true, true, true, true, false, false, false] rfl rfl (by kernel_rfl) (fun _ _ _ h => h) (Or.inl ⟨by rfl, ?_⟩) ?_ ?_
  rotate_left
  · intro w'
    go_simp
    with_reducible rfl
  rotate_left
  · simp only [Act.put, List.setIfInBounds_toArray, List.set_cons_zero, List.set_cons_succ, i64_w, i32_w]
    rfl
  refine one_ (i := 19) (N := some 35) #[true, true, true, true, true, true, true, true, true, true, true, true, true, true, true, true, true, true, true, true, false, false] rfl rfl (by kernel_rfl) (by decide) (fun K hK => ?_)
  refine goes_ Try.func11 (by kernel_rfl) rfl #[] (by rfl) rfl rfl (by simp only [List.map_toArray, List.map_nil]) ?_
  refine (semvcslaw28_awake.calls true _ rfl).mono ?_
  rintro e w10 ⟨rfl, hb10⟩
  have g10 := below_step g9 hb10
  refine ⟨_, rfl, ?_⟩
  refine hK.out _ _ ⟨pw_cell_below hb10 (hHeld.1), pw_cell_below hb10 (hHeld.2.1), pw_cell_below hb10 (hHeld.2.2)⟩ (fun hHeld => ?_)
  clear hK K
  refine norm_ (a' := ?_) ?_ ?_
  rotate_left
  · show Act.put _ (some 35) _ = _
    simp only [Act.put, List.setIfInBounds_toArray, List.set_cons_zero, List.set_cons_succ, i64_w, i32_w]
    rfl
  refine pure_ (i := 20) (N := some 36) (v := ?_) (a' := ?_) #[true, true, true, true, true, true, true, true, true, true, true, true, true, true, true, true, true, true, true, true, true, false] rfl rfl (by kernel_rfl) (fun _ _ _ h => h) (Or.inl ⟨by rfl, ?_⟩) ?_ ?_
  rotate_left
  · intro w'
    go_simp
    with_reducible rfl
  rotate_left
  · simp only [Act.put, List.setIfInBounds_toArray, List.set_cons_zero, List.set_cons_succ, i64_w, i32_w]
    rfl
  refine pure_ (i := 21) (N := some 6) (v := ?_) (a' := ?_) #[true, true, true, true, true, true, true, true, true, true, true, true, true, true, true, true, true, true, true, true, true, true] rfl rfl (by kernel_rfl) (fun _ _ _ h => h) (Or.inl ⟨by rfl, ?_⟩) ?_ ?_
  rotate_left
  · intro w'
    go_simp
    with_reducible rfl
  rotate_left
  · simp only [Act.put, List.setIfInBounds_toArray, List.set_cons_zero, List.set_cons_succ, i64_w, i32_w]
    rfl
  refine done_ (by kernel_rfl) ?_
  go_wp2_with fail
  go_ret
  exact ⟨rfl, below_step GZ.out g10⟩
end Go.Proofs.Ytcecekmhikmkhaa.M
