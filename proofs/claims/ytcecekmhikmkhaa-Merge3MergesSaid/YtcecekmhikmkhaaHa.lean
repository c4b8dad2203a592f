/- The contract of the reference's Merge (semvcsref28, function 10): what it returns, as a plain function with rounds. For all states that read as data. -/
import Derived.Test.YtcecekmhikmkhaaH3
import Derived.Test.YtcecekmhikmkhaaMx4
import Derived.Test.YtcecekmhikmkhaaMx9
namespace Go.Proofs.Ytcecekmhikmkhaa.M
open Go.RowKit Go.Proofs.YtcecekmhikmkhaaW.PrintWords Go.Proofs.YtcecekmhikmkhaaW.PrintLast Go.Proofs.YtcecekmhikmkhaaW.PrintMore
set_option linter.unusedVariables false
set_option linter.unusedSimpArgs false
/-- The register that comes next in two lists of slots, what they have there, and what is left of them. -/
structure Nx where
  id : Int
  fd : Int
  xa : List S49
  ya : List S49
  ta : List S53
  tb : List S53
def aheadB (x y : S53) : Bool := decide (x.f0 < y.f0) || decide (x.f0 = y.f0) && decide (x.f1 < y.f1)
def nextReg : List S53 → List S53 → Option Nx
  | [], [] => none
  | x :: ta, [] => some ⟨x.f0, x.f1, x.f2, [], ta, []⟩
  | [], y :: tb => some ⟨y.f0, y.f1, [], y.f2, [], tb⟩
  | x :: ta, y :: tb => if aheadB y x then some ⟨y.f0, y.f1, [], y.f2, x :: ta, tb⟩ else if x.f0 = y.f0 ∧ x.f1 = y.f1 then some ⟨x.f0, x.f1, x.f2, y.f2, ta, tb⟩ else some ⟨x.f0, x.f1, x.f2, [], ta, y :: tb⟩
def semvcsref28_Merge.l0 (base : List S53) : Nat → List S53 → List S53 → List S53 → Option (List S53)
  | 0, _, _, _ => none
  | k + 1, ta, tb, out => match nextReg ta tb with
    | none => some out
    | some n => (semvcsref25_Alts.f k base n.id n.fd).bind fun o => (semvcsref28_register.f k o n.xa n.ya).bind fun l => if 0 < l.length then (if out.length < 3518437208883 then semvcsref28_Merge.l0 base k n.ta n.tb (out ++ [⟨n.id, n.fd, l⟩]) else none) else semvcsref28_Merge.l0 base k n.ta n.tb out
def semvcsref28_Merge.f (k : Nat) (l0 l1 l2 : List S53) : Option (List S53) := semvcsref28_Merge.l0 l0 k l1 l2 []
theorem semvcsref28_Merge.mono_l (base : List S53) : ∀ k ta tb out, LeO (semvcsref28_Merge.l0 base k ta tb out) (semvcsref28_Merge.l0 base (k + 1) ta tb out)
  | 0, _, _, _ => fun r h => by simp [semvcsref28_Merge.l0] at h
  | k + 1, ta, tb, out => by
    rw [semvcsref28_Merge.l0, semvcsref28_Merge.l0]
    cases nextReg ta tb with
    | none => exact LeO.refl _
    | some n =>
      refine LeO.bind (semvcsref25_Alts.mono _ _ _ _) (fun o => LeO.bind (semvcsref28_register.mono _ _ _ _) (fun l => ?_))
      refine LeO.ite (LeO.ite (semvcsref28_Merge.mono_l base k _ _ _) (LeO.none _)) (semvcsref28_Merge.mono_l base k _ _ _)
theorem semvcsref28_Merge.mono : ∀ a0 a1 a2 k, LeO (semvcsref28_Merge.f k a0 a1 a2) (semvcsref28_Merge.f (k + 1) a0 a1 a2) := fun a0 a1 a2 k => semvcsref28_Merge.mono_l a0 k a1 a2 []
theorem ahead_is (x y : S53) : semvcsref25_Ahead.f x.f0 x.f1 y.f0 y.f1 = some (aheadB x y) := by
  unfold semvcsref25_Ahead.f aheadB
  by_cases h1 : x.f0 < y.f0
  · simp [h1]
  · by_cases h2 : x.f0 = y.f0
    · simp [h2]
    · simp [h1, h2]
/-- The slot with number i of a list that reads as data. -/
theorem slot_at {w0 w' : World} {A : Option Addr} {l pre t : List S53} {x : S53} (h : Kd.C k53 w0 A l.length l) (hl : l = pre ++ x :: t) (hb : Below w0.heap.size w0 w') :
    ∃ (ad : Addr) (A2 : Option Addr) (c2 : Nat), A = some ad ∧ Three w' (ad.add (pre.length * 3)) x A2 c2 := by
  have hlt : pre.length < l.length := by rw [hl]; simp
  obtain ⟨ad, A2, c2, e, h0, h1, h2, h3, h4⟩ := at_T53 (Kd.C_below h hb) (pre.length : Int) (by omega) (by omega)
  have hx : rd_T53 l (pre.length : Int) = x := by unfold rd_T53; rw [hl]; simp [List.getD_eq_getElem?_getD]
  rw [hx] at h0 h1 h2 h3 h4
  exact ⟨ad, A2, c2, e, h0, h1, h2, h3, h4⟩
theorem or5 {a b c d e p : Prop} (h : a ∨ b ∨ c ∨ d ∨ e) (ha : a → p) (hb : b → p) (hc : c → p) (hd : d → p) (he : e → p) : p := by
  rcases h with h | h | h | h | h
  · exact ha h
  · exact hb h
  · exact hc h
  · exact hd h
  · exact he h
/-- The five ways of a round. -/
theorem next_cases (ta tb : List S53) (n : Nx) (h : nextReg ta tb = some n) :
    (∃ x t, ta = x :: t ∧ tb = [] ∧ n = ⟨x.f0, x.f1, x.f2, [], t, []⟩) ∨
    (∃ y u, ta = [] ∧ tb = y :: u ∧ n = ⟨y.f0, y.f1, [], y.f2, [], u⟩) ∨
    (∃ x t y u, ta = x :: t ∧ tb = y :: u ∧ aheadB y x = true ∧ n = ⟨y.f0, y.f1, [], y.f2, x :: t, u⟩) ∨
    (∃ x t y u, ta = x :: t ∧ tb = y :: u ∧ aheadB y x = false ∧ x.f0 = y.f0 ∧ x.f1 = y.f1 ∧ n = ⟨x.f0, x.f1, x.f2, y.f2, t, u⟩) ∨
    (∃ x t y u, ta = x :: t ∧ tb = y :: u ∧ aheadB y x = false ∧ ¬ (x.f0 = y.f0 ∧ x.f1 = y.f1) ∧ n = ⟨x.f0, x.f1, x.f2, [], t, y :: u⟩) := by
  cases ta with
  | nil =>
    cases tb with
    | nil => simp [nextReg] at h
    | cons y u => simp only [nextReg, Option.some.injEq] at h; exact .inr (.inl ⟨y, u, rfl, rfl, h.symm⟩)
  | cons x t =>
    cases tb with
    | nil => simp only [nextReg, Option.some.injEq] at h; exact .inl ⟨x, t, rfl, rfl, h.symm⟩
    | cons y u =>
      cases hb : aheadB y x with
      | true => simp only [nextReg, hb, if_true, Option.some.injEq] at h; exact .inr (.inr (.inl ⟨x, t, y, u, rfl, rfl, hb, h.symm⟩))
      | false =>
        simp only [nextReg, hb, Bool.false_eq_true, if_false] at h
        by_cases he : x.f0 = y.f0 ∧ x.f1 = y.f1
        · rw [if_pos he, Option.some.injEq] at h; exact .inr (.inr (.inr (.inl ⟨x, t, y, u, rfl, rfl, hb, he.1, he.2, h.symm⟩)))
        · rw [if_neg he, Option.some.injEq] at h; exact .inr (.inr (.inr (.inr ⟨x, t, y, u, rfl, rfl, hb, he, h.symm⟩)))
theorem next_none (ta tb : List S53) (h : nextReg ta tb = none) : ta = [] ∧ tb = [] := by
  cases ta with
  | nil =>
    cases tb with
    | nil => exact ⟨rfl, rfl⟩
    | cons y u => simp [nextReg] at h
  | cons x t =>
    cases tb with
    | nil => simp [nextReg] at h
    | cons y u =>
      simp only [nextReg] at h
      split at h
      · cases h
      · split at h <;> cases h
set_option maxRecDepth 100000 in
set_option maxHeartbeats 16000000 in
theorem semvcsref28_Merge.calls (k : Nat) (A0_0 : Option Addr) (c0_0 : Nat) (l0_0 : List S53) (A1_0 : Option Addr) (c1_0 : Nat) (l1_0 : List S53) (A2_0 : Option Addr) (c2_0 : Nat) (l2_0 : List S53) (r : List S53) (w : World) (hr0_0 : Kd.C k53 w A0_0 l0_0.length l0_0) (hc0_0 : l0_0.length ≤ c0_0) (hr1_0 : Kd.C k53 w A1_0 l1_0.length l1_0) (hc1_0 : l1_0.length ≤ c1_0) (hr2_0 : Kd.C k53 w A2_0 l2_0.length l2_0) (hc2_0 : l2_0.length ≤ c2_0) (h : semvcsref28_Merge.f k l0_0 l1_0 l2_0 = some r) :
    Calls Try.prog 10 #[.agg #[.slice A0_0 l0_0.length c0_0], .agg #[.slice A1_0 l1_0.length c1_0], .agg #[.slice A2_0 l2_0.length c2_0]] w fun e w' => ∃ v0_ : Value, e = .returned (.agg #[v0_]) ∧ Kd.R k53 53 w' w.heap.size (fun _ => True) v0_ r ∧ Below w.heap.size w w' := by
  have HR0 := Aside0.mk hr0_0
  have HR1 := Aside0.mk hr1_0
  have HR2 := Aside0.mk hr2_0
  have HC0 := Aside0.mk hc0_0
  have HC1 := Aside0.mk hc1_0
  have HC2 := Aside0.mk hc2_0
  have hm1 := hr1_0.2.1
  have hm2 := hr2_0.2.1
  have H := Aside0.mk h
  clear hr0_0 hr1_0 hr2_0 hc0_0 hc1_0 hc2_0 h
  have hbW : ∀ o1 o2 o3 o4 : Obj, Below w.heap.size w ((((w.alloc o1).alloc o2).alloc o3).alloc o4) := fun o1 o2 o3 o4 => by repeat (first | exact Below.refl _ _ | apply below_alloc)
  have h3W : ∀ o2 o3 o4 : Obj, ((((w.alloc (.cells #[.slice A0_0 l0_0.length c0_0] 25)).alloc o2).alloc o3).alloc o4).heap[w.heap.size]? = some (.cells #[.slice A0_0 l0_0.length c0_0] 25 (0, 0)) := fun o2 o3 o4 => blk_alloc (blk_alloc (blk_alloc (blk_new _ _) _) _) _
  have h4W : ∀ o1 o3 o4 : Obj, ((((w.alloc o1).alloc (.cells #[.slice A1_0 l1_0.length c1_0] 25)).alloc o3).alloc o4).heap[w.heap.size + 1]? = some (.cells #[.slice A1_0 l1_0.length c1_0] 25 (0, 0)) := fun o1 o3 o4 => by
    have := blk_alloc (blk_alloc (blk_new (w.alloc o1) (.cells #[.slice A1_0 l1_0.length c1_0] 25)) o3) o4
    simpa only [World.size_alloc] using this
  have h5W : ∀ o1 o2 o4 : Obj, ((((w.alloc o1).alloc o2).alloc (.cells #[.slice A2_0 l2_0.length c2_0] 25)).alloc o4).heap[w.heap.size + 1 + 1]? = some (.cells #[.slice A2_0 l2_0.length c2_0] 25 (0, 0)) := fun o1 o2 o4 => by
    have := blk_alloc (blk_new ((w.alloc o1).alloc o2) (.cells #[.slice A2_0 l2_0.length c2_0] 25)) o4
    simpa only [World.size_alloc] using this
  have h6W : ∀ o1 o2 o3 : Obj, ((((w.alloc o1).alloc o2).alloc o3).alloc (.cells #[.slice none 0 0] 25)).heap[w.heap.size + 1 + 1 + 1]? = some (.cells #[.slice none 0 0] 25 (0, 0)) := fun o1 o2 o3 => by
    have := blk_new (((w.alloc o1).alloc o2).alloc o3) (.cells #[.slice none 0 0] 25)
    simpa only [World.size_alloc] using this
  have HBW := Aside0.mk hbW
  have H3 := Aside0.mk h3W
  have H4 := Aside0.mk h4W
  have H5 := Aside0.mk h5W
  have H6 := Aside0.mk h6W
  clear hbW h3W h4W h5W h6W
  go_enter Try.func10, Try.ntmps10
  go_wp2_with fail
  go_loopg [7, 8, 9] k (fun kq v7 v8 v9 wr => ∃ (ta tb out : List S53) (pa pb : List S53), v8 = .int .i64 pa.length ∧ v9 = .int .i64 pb.length ∧ Aside0 (l1_0 = pa ++ ta) ∧ Aside0 (l2_0 = pb ++ tb) ∧ Aside0 (semvcsref28_Merge.l0 l0_0 kq ta tb out = some r) ∧ Aside0 (kq ≤ k) ∧ Aside0 (Kd.R k53 53 wr w.heap.size (fun q => q ≠ w.heap.size ∧ q ≠ w.heap.size + 1 ∧ q ≠ w.heap.size + 1 + 1 ∧ q ≠ w.heap.size + 1 + 1 + 1) v7 out) ∧ Aside0 (wr.heap[w.heap.size]? = some (.cells #[.slice A0_0 l0_0.length c0_0] 25 (0, 0))) ∧ Aside0 (wr.heap[w.heap.size + 1]? = some (.cells #[.slice A1_0 l1_0.length c1_0] 25 (0, 0))) ∧ Aside0 (wr.heap[w.heap.size + 1 + 1]? = some (.cells #[.slice A2_0 l2_0.length c2_0] 25 (0, 0))) ∧ Aside0 (wr.heap[w.heap.size + 1 + 1 + 1]? = some (.cells #[.slice none 0 0] 25 (0, 0))) ∧ Aside0 (Below w.heap.size w wr))
  case atStart => exact ⟨l1_0, l2_0, [], [], [], rfl, rfl, ⟨rfl⟩, ⟨rfl⟩, H, ⟨Nat.le_refl _⟩, ⟨Kd.R_nil _ _ _ _ _⟩, ⟨H3.out _ _ _⟩, ⟨H4.out _ _ _⟩, ⟨H5.out _ _ _⟩, ⟨H6.out _ _ _⟩, ⟨HBW.out _ _ _ _⟩⟩
  case round =>
    clear H H3 H4 H5 H6 HBW
    obtain ⟨ta, tb, out, pa, pb, rfl, rfl, HP1, HP2, HA, HK, HO, H3, H4, H5, H6, HB⟩ := hrel
    cases gk with
    | zero => exact absurd HA.out (by simp [semvcsref28_Merge.l0])
    | succ gk =>
      have H := HA.out
      clear HA
      rw [semvcsref28_Merge.l0] at H
      have b3 : wr.cell? ⟨w.heap.size, 0, none⟩ = some (.slice A0_0 l0_0.length c0_0) := (blk_cell H3.out 0).trans rfl
      have b4 : wr.cell? ⟨w.heap.size + 1, 0, none⟩ = some (.slice A1_0 l1_0.length c1_0) := (blk_cell H4.out 0).trans rfl
      have b5 : wr.cell? ⟨w.heap.size + 1 + 1, 0, none⟩ = some (.slice A2_0 l2_0.length c2_0) := (blk_cell H5.out 0).trans rfl
      cases hn : nextReg ta tb with
      | none =>
        rw [hn] at H
        obtain rfl := Option.some.inj H
        obtain ⟨rfl, rfl⟩ := next_none _ _ hn
        have e1 : decide (pa.length < l1_0.length) = false := decide_eq_false (by have := HP1.out; rw [this]; simp)
        have e2 : decide (pb.length < l2_0.length) = false := decide_eq_false (by have := HP2.out; rw [this]; simp)
        obtain ⟨Ao, co, rfl⟩ := Kd.R_slice HO.out
        have h6c : wr.cell? ⟨w.heap.size + 1 + 1 + 1, 0, none⟩ = some (.slice none 0 0) := (blk_cell H6.out 0).trans rfl
        have h6f := blk_frozen H6.out 0
        go_wp2_with fail
        have hres : (wr.setCell ⟨w.heap.size + 1 + 1 + 1, 0, none⟩ (.slice Ao out.length co)).cell? ⟨w.heap.size + 1 + 1 + 1, 0, none⟩ = some (.slice Ao out.length co) := (blk_cell (blk_put H6.out 0 (.slice Ao out.length co) rfl) 0).trans rfl
        refine bodyPost_ret (v := .agg #[.slice Ao out.length co]) (by simp [results, Try.results10, go_sem, hres]) rfl ⟨_, rfl, Kd.R_mono (Kd.R_set HO.out H6.out (by decide) 0 _) (fun _ _ => trivial), HB.out.setCell (by show w.heap.size ≤ w.heap.size + 1 + 1 + 1; omega) _⟩
      | some n =>
        rw [hn] at H
        obtain ⟨o, ho, H⟩ := Option.bind_eq_some_iff.mp H
        obtain ⟨l, hl, H⟩ := Option.bind_eq_some_iff.mp H
        have HO1 := Aside0.mk ho
        have HL1 := Aside0.mk hl
        have HX := Aside0.mk H
        clear ho hl H
        refine or5 (next_cases ta tb n hn) ?cA ?cB ?cC ?cD ?cE
        case cA =>
          rintro ⟨x, t, rfl, rfl, rfl⟩
          clear hn
          obtain ⟨ad, Ax, cx, rfl, hx0, hx1, hx2, hx3, hx4⟩ := slot_at HR1.out HP1.out HB.out
          have F3x := Aside0.mk hx3
          have F4x := Aside0.mk hx4
          clear hx3 hx4
          have i1 : (pa.length : Int) < (l1_0.length : Int) := by have := congrArg List.length HP1.out; rw [List.length_append, List.length_cons] at this; omega
          have i0 : (0 : Int) ≤ (pa.length : Int) := by omega
          have i2 : pa.length < l1_0.length := by omega
          have e1 : decide (pa.length < l1_0.length) = true := decide_eq_true i2
          have e1i : decide ((pa.length : Int) < (l1_0.length : Int)) = true := decide_eq_true i1
          have e2 : decide (pb.length < l2_0.length) = false := decide_eq_false (by have := HP2.out; rw [this]; simp)
          have e2i : decide ((pb.length : Int) < (l2_0.length : Int)) = false := decide_eq_false (by have := HP2.out; rw [this]; simp)
          have e3 : decide (l2_0.length ≤ pb.length) = true := decide_eq_true (by have := HP2.out; rw [this]; simp)
          have e3i : decide ((l2_0.length : Int) ≤ (pb.length : Int)) = true := decide_eq_true (by have := HP2.out; rw [this]; simp)
          have q0 : decide (x.f0 = x.f0) = true := decide_eq_true rfl
          have q1 : decide (x.f1 = x.f1) = true := decide_eq_true rfl
          go_wp2_with fail
          go_quiet (fail)
          go_wp2_with fail
          go_quiet (fail)
          go_wp2_with fail
          go_wp2_with fail
          refine (semvcsref25_Alts.calls gk (fun _ => True) A0_0 c0_0 l0_0 x.f0 x.f1 o _ ?sA HO1.out).mono ?_
          case sA => exact Kd.V_mk HC0.out (Kd.F_mono (Kd.C_F k53_heap (Kd.C_drewN (Kd.C_below HR0.out HB.out) _)) (fun _ _ => trivial))
          rintro e w1 ⟨v1, rfl, hV1, hb1⟩
          obtain ⟨A9, c9, rfl⟩ := Kd.V_slice hV1
          have hbq := Aside0.mk (below_step (pw_below_drewN (Below.refl _ wr) _) hb1)
          have HVC := Aside0.mk (Kd.V_reads' hV1)
          clear hV1 hb1
          go_wp2_with fail
          refine (semvcsref28_register.calls gk A9 c9 o Ax cx x.f2 none 0 [] l w1 HVC.out.2.2 HVC.out.2.1 (Kd.C_below F4x.out hbq.out) F3x.out (Kd.C_nil _ _) (Nat.le_refl 0) HL1.out).mono ?_
          rintro e w2 ⟨v2, rfl, hR2, hb2⟩
          have hbr := below_step hbq.out hb2
          obtain ⟨A8, c8, rfl⟩ := Kd.R_slice hR2
          have HRR := Aside0.mk (Kd.R_lower (Kd.R_mono (ok' := fun q => wr.heap.size ≤ q) (Kd.R_bound hR2) (fun q hq => Nat.le_trans hbq.out.size hq.2.1)) (Nat.le_trans HB.out.size hbq.out.size))
          have HBR := Aside0.mk hbr
          clear hR2 hb2 hbr
          rcases list_cases l with rfl | ⟨mh, mt, hMe⟩
          · rw [show ([] : List S49).length = 0 from rfl]
            go_wp2_with fail
            go_roundg gk
            case measure => have := HK.out; omega
            case rel =>
              refine ⟨t, [], out, (pa ++ [x]), pb, by rw [List.length_append, List.length_singleton]; go_num, rfl, ⟨by rw [HP1.out, List.append_assoc]; rfl⟩, HP2, ⟨by have := HX.out; simpa using this⟩, ⟨by have := HK.out; omega⟩, ⟨Kd.R_below HO.out HBR.out⟩, ⟨blk_below H3.out HBR.out⟩, ⟨blk_below H4.out HBR.out⟩, ⟨blk_below H5.out HBR.out⟩, ⟨blk_below H6.out HBR.out⟩, ⟨below_then HB.out HB.out.size HBR.out⟩⟩
          · have hpos : (0 : Int) < (l.length : Int) := by rw [hMe, List.length_cons]; omega
            have hposb : decide ((0 : Int) < (l.length : Int)) = true := decide_eq_true hpos
            have hposn : 0 < l.length := by omega
            clear hMe
            have H := HX.out
            rw [if_pos hposn] at H
            by_cases hlen : out.length < 3518437208883
            · rw [if_pos hlen] at H
              have HY := Aside0.mk H
              clear H
              obtain ⟨Ao, co, rfl⟩ := Kd.R_slice HO.out
              have hsz := HBR.out.size
              have k3 := blk_lt H3.out
              have k4 := blk_lt H4.out
              have k5 := blk_lt H5.out
              have k6 := blk_lt H6.out
              have HOZ := Aside0.mk (Kd.R_below HO.out HBR.out)
              have HN := Aside0.mk (fun (q : Nat) (hq : wr.heap.size ≤ q) => show (q ≠ w.heap.size ∧ q ≠ w.heap.size + 1 ∧ q ≠ w.heap.size + 1 + 1 ∧ q ≠ w.heap.size + 1 + 1 + 1) from ⟨by omega, by omega, by omega, by omega⟩)
              have hown := Aside0.mk (fun (q : Nat) (hq : wr.heap.size ≤ q) => show some q ≠ (Value.slice Ao out.length co).ownBlock from fun e => by obtain ⟨inner, ho⟩ := Kd.R_own HO.out; have := own_lt ho q e.symm; omega)
              have HSZ := Aside0.mk hsz
              have h3 := blk_below H3.out HBR.out
              have h4 := blk_below H4.out HBR.out
              have h5 := blk_below H5.out HBR.out
              have h6 := blk_below H6.out HBR.out
              have N3 := Aside0.mk (Kd.R_ne HOZ.out h3 (by decide))
              have N4 := Aside0.mk (Kd.R_ne HOZ.out h4 (by decide))
              have N5 := Aside0.mk (Kd.R_ne HOZ.out h5 (by decide))
              have N6 := Aside0.mk (Kd.R_ne HOZ.out h6 (by decide))
              clear hsz k3 k4 k5 k6 h3 h4 h5 h6
              go_wp2_with (first | (at_builtin; refine Kd.R_append k53 (w0 := w) w.heap.size rfl (.tmp 167) (.tmp 172) 23 53 (.agg #[(.int .i64 0), (.int .i64 0), (.slice none 0 0)]) 40 rfl Try.underlying23 info53 rfl (by decide) (by omega) (.slice Ao out.length co) out ⟨x.f0, x.f1, l⟩ [.int .i64 x.f0, .int .i64 x.f1, .slice A8 l.length c8] (fun q => q ≠ w.heap.size ∧ q ≠ w.heap.size + 1 ∧ q ≠ w.heap.size + 1 + 1 ∧ q ≠ w.heap.size + 1 + 1 + 1) (fun q => wr.heap.size ≤ q) rfl rfl ?aP ?aK ?aF ?aO ?aB ?aS ?aL ?_; (case aP => exact k53_mkM _ _ _ ⟨x.f0, x.f1, l⟩ HRR.out); (case aK => exact fun q hq => ⟨HN.out q hq, hown.out q hq⟩); (case aF => exact fun q hq => HN.out q (Nat.le_trans HSZ.out hq)); (case aO => exact HOZ.out); (case aB => exact below_then HB.out HB.out.size HBR.out); (case aS => exact Nat.le_trans HB.out.size HSZ.out); (case aL => omega); intro v9 w5 ho hb hg hat; have HO5 := Aside0.mk ho; have HB5 := Aside0.mk hb; have HG5 := Aside0.mk hg; clear ho hb hg hat))
              go_roundg gk
              case measure => have := HK.out; omega
              case rel =>
                refine ⟨t, [], out ++ [⟨x.f0, x.f1, l⟩], (pa ++ [x]), pb, by rw [List.length_append, List.length_singleton]; go_num, rfl, ⟨by rw [HP1.out, List.append_assoc]; rfl⟩, HP2, HY, ⟨by have := HK.out; omega⟩, HO5, ⟨blk_grown (blk_below H3.out HBR.out) HG5.out N3.out⟩, ⟨blk_grown (blk_below H4.out HBR.out) HG5.out N4.out⟩, ⟨blk_grown (blk_below H5.out HBR.out) HG5.out N5.out⟩, ⟨blk_grown (blk_below H6.out HBR.out) HG5.out N6.out⟩, HB5⟩
            · rw [if_neg hlen] at H
              cases H
        case cB =>
          rintro ⟨y, u, rfl, rfl, rfl⟩
          clear hn
          have e1 : decide (pa.length < l1_0.length) = false := decide_eq_false (by have := HP1.out; rw [this]; simp)
          have e1i : decide ((pa.length : Int) < (l1_0.length : Int)) = false := decide_eq_false (by have := HP1.out; rw [this]; simp)
          obtain ⟨bd, Ay, cy, rfl, hy0, hy1, hy2, hy3, hy4⟩ := slot_at HR2.out HP2.out HB.out
          have F3y := Aside0.mk hy3
          have F4y := Aside0.mk hy4
          clear hy3 hy4
          have j1 : (pb.length : Int) < (l2_0.length : Int) := by have := congrArg List.length HP2.out; rw [List.length_append, List.length_cons] at this; omega
          have j0 : (0 : Int) ≤ (pb.length : Int) := by omega
          have j2 : pb.length < l2_0.length := by omega
          have e2 : decide (pb.length < l2_0.length) = true := decide_eq_true j2
          have e2i : decide ((pb.length : Int) < (l2_0.length : Int)) = true := decide_eq_true j1
          have e3 : decide (l2_0.length ≤ pb.length) = false := decide_eq_false (by omega)
          have e3i : decide ((l2_0.length : Int) ≤ (pb.length : Int)) = false := decide_eq_false (by omega)
          have p0 : decide (y.f0 = y.f0) = true := decide_eq_true rfl
          have p1 : decide (y.f1 = y.f1) = true := decide_eq_true rfl
          go_wp2_with fail
          go_quiet (fail)
          go_wp2_with fail
          go_quiet (fail)
          go_wp2_with fail
          go_wp2_with fail
          refine (semvcsref25_Alts.calls gk (fun _ => True) A0_0 c0_0 l0_0 y.f0 y.f1 o _ ?sA HO1.out).mono ?_
          case sA => exact Kd.V_mk HC0.out (Kd.F_mono (Kd.C_F k53_heap (Kd.C_drewN (Kd.C_below HR0.out HB.out) _)) (fun _ _ => trivial))
          rintro e w1 ⟨v1, rfl, hV1, hb1⟩
          obtain ⟨A9, c9, rfl⟩ := Kd.V_slice hV1
          have hbq := Aside0.mk (below_step (pw_below_drewN (Below.refl _ wr) _) hb1)
          have HVC := Aside0.mk (Kd.V_reads' hV1)
          clear hV1 hb1
          go_wp2_with fail
          refine (semvcsref28_register.calls gk A9 c9 o none 0 [] Ay cy y.f2 l w1 HVC.out.2.2 HVC.out.2.1 (Kd.C_nil _ _) (Nat.le_refl 0) (Kd.C_below F4y.out hbq.out) F3y.out HL1.out).mono ?_
          rintro e w2 ⟨v2, rfl, hR2, hb2⟩
          have hbr := below_step hbq.out hb2
          obtain ⟨A8, c8, rfl⟩ := Kd.R_slice hR2
          have HRR := Aside0.mk (Kd.R_lower (Kd.R_mono (ok' := fun q => wr.heap.size ≤ q) (Kd.R_bound hR2) (fun q hq => Nat.le_trans hbq.out.size hq.2.1)) (Nat.le_trans HB.out.size hbq.out.size))
          have HBR := Aside0.mk hbr
          clear hR2 hb2 hbr
          rcases list_cases l with rfl | ⟨mh, mt, hMe⟩
          · rw [show ([] : List S49).length = 0 from rfl]
            go_wp2_with fail
            go_roundg gk
            case measure => have := HK.out; omega
            case rel =>
              refine ⟨[], u, out, pa, (pb ++ [y]), rfl, by rw [List.length_append, List.length_singleton]; go_num, HP1, ⟨by rw [HP2.out, List.append_assoc]; rfl⟩, ⟨by have := HX.out; simpa using this⟩, ⟨by have := HK.out; omega⟩, ⟨Kd.R_below HO.out HBR.out⟩, ⟨blk_below H3.out HBR.out⟩, ⟨blk_below H4.out HBR.out⟩, ⟨blk_below H5.out HBR.out⟩, ⟨blk_below H6.out HBR.out⟩, ⟨below_then HB.out HB.out.size HBR.out⟩⟩
          · have hpos : (0 : Int) < (l.length : Int) := by rw [hMe, List.length_cons]; omega
            have hposb : decide ((0 : Int) < (l.length : Int)) = true := decide_eq_true hpos
            have hposn : 0 < l.length := by omega
            clear hMe
            have H := HX.out
            rw [if_pos hposn] at H
            by_cases hlen : out.length < 3518437208883
            · rw [if_pos hlen] at H
              have HY := Aside0.mk H
              clear H
              obtain ⟨Ao, co, rfl⟩ := Kd.R_slice HO.out
              have hsz := HBR.out.size
              have k3 := blk_lt H3.out
              have k4 := blk_lt H4.out
              have k5 := blk_lt H5.out
              have k6 := blk_lt H6.out
              have HOZ := Aside0.mk (Kd.R_below HO.out HBR.out)
              have HN := Aside0.mk (fun (q : Nat) (hq : wr.heap.size ≤ q) => show (q ≠ w.heap.size ∧ q ≠ w.heap.size + 1 ∧ q ≠ w.heap.size + 1 + 1 ∧ q ≠ w.heap.size + 1 + 1 + 1) from ⟨by omega, by omega, by omega, by omega⟩)
              have hown := Aside0.mk (fun (q : Nat) (hq : wr.heap.size ≤ q) => show some q ≠ (Value.slice Ao out.length co).ownBlock from fun e => by obtain ⟨inner, ho⟩ := Kd.R_own HO.out; have := own_lt ho q e.symm; omega)
              have HSZ := Aside0.mk hsz
              have h3 := blk_below H3.out HBR.out
              have h4 := blk_below H4.out HBR.out
              have h5 := blk_below H5.out HBR.out
              have h6 := blk_below H6.out HBR.out
              have N3 := Aside0.mk (Kd.R_ne HOZ.out h3 (by decide))
              have N4 := Aside0.mk (Kd.R_ne HOZ.out h4 (by decide))
              have N5 := Aside0.mk (Kd.R_ne HOZ.out h5 (by decide))
              have N6 := Aside0.mk (Kd.R_ne HOZ.out h6 (by decide))
              clear hsz k3 k4 k5 k6 h3 h4 h5 h6
              go_wp2_with (first | (at_builtin; refine Kd.R_append k53 (w0 := w) w.heap.size rfl (.tmp 167) (.tmp 172) 23 53 (.agg #[(.int .i64 0), (.int .i64 0), (.slice none 0 0)]) 40 rfl Try.underlying23 info53 rfl (by decide) (by omega) (.slice Ao out.length co) out ⟨y.f0, y.f1, l⟩ [.int .i64 y.f0, .int .i64 y.f1, .slice A8 l.length c8] (fun q => q ≠ w.heap.size ∧ q ≠ w.heap.size + 1 ∧ q ≠ w.heap.size + 1 + 1 ∧ q ≠ w.heap.size + 1 + 1 + 1) (fun q => wr.heap.size ≤ q) rfl rfl ?aP ?aK ?aF ?aO ?aB ?aS ?aL ?_; (case aP => exact k53_mkM _ _ _ ⟨y.f0, y.f1, l⟩ HRR.out); (case aK => exact fun q hq => ⟨HN.out q hq, hown.out q hq⟩); (case aF => exact fun q hq => HN.out q (Nat.le_trans HSZ.out hq)); (case aO => exact HOZ.out); (case aB => exact below_then HB.out HB.out.size HBR.out); (case aS => exact Nat.le_trans HB.out.size HSZ.out); (case aL => omega); intro v9 w5 ho hb hg hat; have HO5 := Aside0.mk ho; have HB5 := Aside0.mk hb; have HG5 := Aside0.mk hg; clear ho hb hg hat))
              go_roundg gk
              case measure => have := HK.out; omega
              case rel =>
                refine ⟨[], u, out ++ [⟨y.f0, y.f1, l⟩], pa, (pb ++ [y]), rfl, by rw [List.length_append, List.length_singleton]; go_num, HP1, ⟨by rw [HP2.out, List.append_assoc]; rfl⟩, HY, ⟨by have := HK.out; omega⟩, HO5, ⟨blk_grown (blk_below H3.out HBR.out) HG5.out N3.out⟩, ⟨blk_grown (blk_below H4.out HBR.out) HG5.out N4.out⟩, ⟨blk_grown (blk_below H5.out HBR.out) HG5.out N5.out⟩, ⟨blk_grown (blk_below H6.out HBR.out) HG5.out N6.out⟩, HB5⟩
            · rw [if_neg hlen] at H
              cases H
        case cC =>
          rintro ⟨x, t, y, u, rfl, rfl, ha, rfl⟩
          clear hn
          obtain ⟨ad, Ax, cx, rfl, hx0, hx1, hx2, hx3, hx4⟩ := slot_at HR1.out HP1.out HB.out
          have F3x := Aside0.mk hx3
          have F4x := Aside0.mk hx4
          clear hx3 hx4
          have i1 : (pa.length : Int) < (l1_0.length : Int) := by have := congrArg List.length HP1.out; rw [List.length_append, List.length_cons] at this; omega
          have i0 : (0 : Int) ≤ (pa.length : Int) := by omega
          have i2 : pa.length < l1_0.length := by omega
          have e1 : decide (pa.length < l1_0.length) = true := decide_eq_true i2
          have e1i : decide ((pa.length : Int) < (l1_0.length : Int)) = true := decide_eq_true i1
          obtain ⟨bd, Ay, cy, rfl, hy0, hy1, hy2, hy3, hy4⟩ := slot_at HR2.out HP2.out HB.out
          have F3y := Aside0.mk hy3
          have F4y := Aside0.mk hy4
          clear hy3 hy4
          have j1 : (pb.length : Int) < (l2_0.length : Int) := by have := congrArg List.length HP2.out; rw [List.length_append, List.length_cons] at this; omega
          have j0 : (0 : Int) ≤ (pb.length : Int) := by omega
          have j2 : pb.length < l2_0.length := by omega
          have e2 : decide (pb.length < l2_0.length) = true := decide_eq_true j2
          have e2i : decide ((pb.length : Int) < (l2_0.length : Int)) = true := decide_eq_true j1
          have e3 : decide (l2_0.length ≤ pb.length) = false := decide_eq_false (by omega)
          have e3i : decide ((l2_0.length : Int) ≤ (pb.length : Int)) = false := decide_eq_false (by omega)
          have p0 : decide (y.f0 = y.f0) = true := decide_eq_true rfl
          have p1 : decide (y.f1 = y.f1) = true := decide_eq_true rfl
          have HA := Aside0.mk (show semvcsref25_Ahead.f y.f0 y.f1 x.f0 x.f1 = some true from (ahead_is y x).trans (congrArg some ha))
          have hd0 : ¬ (x.f0 = y.f0 ∧ x.f1 = y.f1) := fun e => by rw [show aheadB y x = false by unfold aheadB; simp [e.1, e.2]] at ha; cases ha
          have HD0 := Aside0.mk hd0
          clear hd0
          clear ha
          by_cases hq : x.f0 = y.f0
          · have p9 : decide (x.f0 = y.f0) = true := decide_eq_true hq
            have p8 : decide (x.f1 = y.f1) = false := decide_eq_false (fun e => HD0.out ⟨hq, e⟩)
            have P9 := Aside0.mk hq
            have P8 := Aside0.mk (show ¬ x.f1 = y.f1 by simpa using p8)
            clear hq
            go_wp2_with fail
            go_quiet ((go_at_call 34; (with_reducible refine (semvcsref25_Ahead.calls y.f0 y.f1 x.f0 x.f1 true _ HA.out).mono ?_); rintro e w' ⟨rfl, ⟨nd, rfl⟩⟩; exact ⟨rfl, _, World.drewN_drewN _ _ _⟩))
            go_wp2_with fail
            go_quiet (fail)
            go_wp2_with fail
            any_goals (first | exact absurd P9.out ‹¬ x.f0 = y.f0› | exact absurd (eq_of_beq ‹(x.f1 == y.f1) = true›) P8.out | skip)
            go_wp2_with fail
            refine (semvcsref25_Alts.calls gk (fun _ => True) A0_0 c0_0 l0_0 y.f0 y.f1 o _ ?sA HO1.out).mono ?_
            case sA => exact Kd.V_mk HC0.out (Kd.F_mono (Kd.C_F k53_heap (Kd.C_drewN (Kd.C_below HR0.out HB.out) _)) (fun _ _ => trivial))
            rintro e w1 ⟨v1, rfl, hV1, hb1⟩
            obtain ⟨A9, c9, rfl⟩ := Kd.V_slice hV1
            have hbq := Aside0.mk (below_step (pw_below_drewN (Below.refl _ wr) _) hb1)
            have HVC := Aside0.mk (Kd.V_reads' hV1)
            clear hV1 hb1
            go_wp2_with fail
            refine (semvcsref28_register.calls gk A9 c9 o none 0 [] Ay cy y.f2 l w1 HVC.out.2.2 HVC.out.2.1 (Kd.C_nil _ _) (Nat.le_refl 0) (Kd.C_below F4y.out hbq.out) F3y.out HL1.out).mono ?_
            rintro e w2 ⟨v2, rfl, hR2, hb2⟩
            have hbr := below_step hbq.out hb2
            obtain ⟨A8, c8, rfl⟩ := Kd.R_slice hR2
            have HRR := Aside0.mk (Kd.R_lower (Kd.R_mono (ok' := fun q => wr.heap.size ≤ q) (Kd.R_bound hR2) (fun q hq => Nat.le_trans hbq.out.size hq.2.1)) (Nat.le_trans HB.out.size hbq.out.size))
            have HBR := Aside0.mk hbr
            clear hR2 hb2 hbr
            rcases list_cases l with rfl | ⟨mh, mt, hMe⟩
            · rw [show ([] : List S49).length = 0 from rfl]
              go_wp2_with fail
              go_roundg gk
              case measure => have := HK.out; omega
              case rel =>
                refine ⟨(x :: t), u, out, pa, (pb ++ [y]), rfl, by rw [List.length_append, List.length_singleton]; go_num, HP1, ⟨by rw [HP2.out, List.append_assoc]; rfl⟩, ⟨by have := HX.out; simpa using this⟩, ⟨by have := HK.out; omega⟩, ⟨Kd.R_below HO.out HBR.out⟩, ⟨blk_below H3.out HBR.out⟩, ⟨blk_below H4.out HBR.out⟩, ⟨blk_below H5.out HBR.out⟩, ⟨blk_below H6.out HBR.out⟩, ⟨below_then HB.out HB.out.size HBR.out⟩⟩
            · have hpos : (0 : Int) < (l.length : Int) := by rw [hMe, List.length_cons]; omega
              have hposb : decide ((0 : Int) < (l.length : Int)) = true := decide_eq_true hpos
              have hposn : 0 < l.length := by omega
              clear hMe
              have H := HX.out
              rw [if_pos hposn] at H
              by_cases hlen : out.length < 3518437208883
              · rw [if_pos hlen] at H
                have HY := Aside0.mk H
                clear H
                obtain ⟨Ao, co, rfl⟩ := Kd.R_slice HO.out
                have hsz := HBR.out.size
                have k3 := blk_lt H3.out
                have k4 := blk_lt H4.out
                have k5 := blk_lt H5.out
                have k6 := blk_lt H6.out
                have HOZ := Aside0.mk (Kd.R_below HO.out HBR.out)
                have HN := Aside0.mk (fun (q : Nat) (hq : wr.heap.size ≤ q) => show (q ≠ w.heap.size ∧ q ≠ w.heap.size + 1 ∧ q ≠ w.heap.size + 1 + 1 ∧ q ≠ w.heap.size + 1 + 1 + 1) from ⟨by omega, by omega, by omega, by omega⟩)
                have hown := Aside0.mk (fun (q : Nat) (hq : wr.heap.size ≤ q) => show some q ≠ (Value.slice Ao out.length co).ownBlock from fun e => by obtain ⟨inner, ho⟩ := Kd.R_own HO.out; have := own_lt ho q e.symm; omega)
                have HSZ := Aside0.mk hsz
                have h3 := blk_below H3.out HBR.out
                have h4 := blk_below H4.out HBR.out
                have h5 := blk_below H5.out HBR.out
                have h6 := blk_below H6.out HBR.out
                have N3 := Aside0.mk (Kd.R_ne HOZ.out h3 (by decide))
                have N4 := Aside0.mk (Kd.R_ne HOZ.out h4 (by decide))
                have N5 := Aside0.mk (Kd.R_ne HOZ.out h5 (by decide))
                have N6 := Aside0.mk (Kd.R_ne HOZ.out h6 (by decide))
                clear hsz k3 k4 k5 k6 h3 h4 h5 h6
                go_wp2_with (first | (at_builtin; refine Kd.R_append k53 (w0 := w) w.heap.size rfl (.tmp 167) (.tmp 172) 23 53 (.agg #[(.int .i64 0), (.int .i64 0), (.slice none 0 0)]) 40 rfl Try.underlying23 info53 rfl (by decide) (by omega) (.slice Ao out.length co) out ⟨y.f0, y.f1, l⟩ [.int .i64 y.f0, .int .i64 y.f1, .slice A8 l.length c8] (fun q => q ≠ w.heap.size ∧ q ≠ w.heap.size + 1 ∧ q ≠ w.heap.size + 1 + 1 ∧ q ≠ w.heap.size + 1 + 1 + 1) (fun q => wr.heap.size ≤ q) rfl rfl ?aP ?aK ?aF ?aO ?aB ?aS ?aL ?_; (case aP => exact k53_mkM _ _ _ ⟨y.f0, y.f1, l⟩ HRR.out); (case aK => exact fun q hq => ⟨HN.out q hq, hown.out q hq⟩); (case aF => exact fun q hq => HN.out q (Nat.le_trans HSZ.out hq)); (case aO => exact HOZ.out); (case aB => exact below_then HB.out HB.out.size HBR.out); (case aS => exact Nat.le_trans HB.out.size HSZ.out); (case aL => omega); intro v9 w5 ho hb hg hat; have HO5 := Aside0.mk ho; have HB5 := Aside0.mk hb; have HG5 := Aside0.mk hg; clear ho hb hg hat))
                go_roundg gk
                case measure => have := HK.out; omega
                case rel =>
                  refine ⟨(x :: t), u, out ++ [⟨y.f0, y.f1, l⟩], pa, (pb ++ [y]), rfl, by rw [List.length_append, List.length_singleton]; go_num, HP1, ⟨by rw [HP2.out, List.append_assoc]; rfl⟩, HY, ⟨by have := HK.out; omega⟩, HO5, ⟨blk_grown (blk_below H3.out HBR.out) HG5.out N3.out⟩, ⟨blk_grown (blk_below H4.out HBR.out) HG5.out N4.out⟩, ⟨blk_grown (blk_below H5.out HBR.out) HG5.out N5.out⟩, ⟨blk_grown (blk_below H6.out HBR.out) HG5.out N6.out⟩, HB5⟩
              · rw [if_neg hlen] at H
                cases H
          · have p9 : decide (x.f0 = y.f0) = false := decide_eq_false hq
            have P9 := Aside0.mk hq
            clear hq
            go_wp2_with fail
            go_quiet ((go_at_call 34; (with_reducible refine (semvcsref25_Ahead.calls y.f0 y.f1 x.f0 x.f1 true _ HA.out).mono ?_); rintro e w' ⟨rfl, ⟨nd, rfl⟩⟩; exact ⟨rfl, _, World.drewN_drewN _ _ _⟩))
            go_wp2_with fail
            go_quiet (fail)
            go_wp2_with fail
            any_goals (first | exact absurd ‹x.f0 = y.f0› P9.out | skip)
            go_wp2_with fail
            refine (semvcsref25_Alts.calls gk (fun _ => True) A0_0 c0_0 l0_0 y.f0 y.f1 o _ ?sA HO1.out).mono ?_
            case sA => exact Kd.V_mk HC0.out (Kd.F_mono (Kd.C_F k53_heap (Kd.C_drewN (Kd.C_below HR0.out HB.out) _)) (fun _ _ => trivial))
            rintro e w1 ⟨v1, rfl, hV1, hb1⟩
            obtain ⟨A9, c9, rfl⟩ := Kd.V_slice hV1
            have hbq := Aside0.mk (below_step (pw_below_drewN (Below.refl _ wr) _) hb1)
            have HVC := Aside0.mk (Kd.V_reads' hV1)
            clear hV1 hb1
            go_wp2_with fail
            refine (semvcsref28_register.calls gk A9 c9 o none 0 [] Ay cy y.f2 l w1 HVC.out.2.2 HVC.out.2.1 (Kd.C_nil _ _) (Nat.le_refl 0) (Kd.C_below F4y.out hbq.out) F3y.out HL1.out).mono ?_
            rintro e w2 ⟨v2, rfl, hR2, hb2⟩
            have hbr := below_step hbq.out hb2
            obtain ⟨A8, c8, rfl⟩ := Kd.R_slice hR2
            have HRR := Aside0.mk (Kd.R_lower (Kd.R_mono (ok' := fun q => wr.heap.size ≤ q) (Kd.R_bound hR2) (fun q hq => Nat.le_trans hbq.out.size hq.2.1)) (Nat.le_trans HB.out.size hbq.out.size))
            have HBR := Aside0.mk hbr
            clear hR2 hb2 hbr
            rcases list_cases l with rfl | ⟨mh, mt, hMe⟩
            · rw [show ([] : List S49).length = 0 from rfl]
              go_wp2_with fail
              go_roundg gk
              case measure => have := HK.out; omega
              case rel =>
                refine ⟨(x :: t), u, out, pa, (pb ++ [y]), rfl, by rw [List.length_append, List.length_singleton]; go_num, HP1, ⟨by rw [HP2.out, List.append_assoc]; rfl⟩, ⟨by have := HX.out; simpa using this⟩, ⟨by have := HK.out; omega⟩, ⟨Kd.R_below HO.out HBR.out⟩, ⟨blk_below H3.out HBR.out⟩, ⟨blk_below H4.out HBR.out⟩, ⟨blk_below H5.out HBR.out⟩, ⟨blk_below H6.out HBR.out⟩, ⟨below_then HB.out HB.out.size HBR.out⟩⟩
            · have hpos : (0 : Int) < (l.length : Int) := by rw [hMe, List.length_cons]; omega
              have hposb : decide ((0 : Int) < (l.length : Int)) = true := decide_eq_true hpos
              have hposn : 0 < l.length := by omega
              clear hMe
              have H := HX.out
              rw [if_pos hposn] at H
              by_cases hlen : out.length < 3518437208883
              · rw [if_pos hlen] at H
                have HY := Aside0.mk H
                clear H
                obtain ⟨Ao, co, rfl⟩ := Kd.R_slice HO.out
                have hsz := HBR.out.size
                have k3 := blk_lt H3.out
                have k4 := blk_lt H4.out
                have k5 := blk_lt H5.out
                have k6 := blk_lt H6.out
                have HOZ := Aside0.mk (Kd.R_below HO.out HBR.out)
                have HN := Aside0.mk (fun (q : Nat) (hq : wr.heap.size ≤ q) => show (q ≠ w.heap.size ∧ q ≠ w.heap.size + 1 ∧ q ≠ w.heap.size + 1 + 1 ∧ q ≠ w.heap.size + 1 + 1 + 1) from ⟨by omega, by omega, by omega, by omega⟩)
                have hown := Aside0.mk (fun (q : Nat) (hq : wr.heap.size ≤ q) => show some q ≠ (Value.slice Ao out.length co).ownBlock from fun e => by obtain ⟨inner, ho⟩ := Kd.R_own HO.out; have := own_lt ho q e.symm; omega)
                have HSZ := Aside0.mk hsz
                have h3 := blk_below H3.out HBR.out
                have h4 := blk_below H4.out HBR.out
                have h5 := blk_below H5.out HBR.out
                have h6 := blk_below H6.out HBR.out
                have N3 := Aside0.mk (Kd.R_ne HOZ.out h3 (by decide))
                have N4 := Aside0.mk (Kd.R_ne HOZ.out h4 (by decide))
                have N5 := Aside0.mk (Kd.R_ne HOZ.out h5 (by decide))
                have N6 := Aside0.mk (Kd.R_ne HOZ.out h6 (by decide))
                clear hsz k3 k4 k5 k6 h3 h4 h5 h6
                go_wp2_with (first | (at_builtin; refine Kd.R_append k53 (w0 := w) w.heap.size rfl (.tmp 167) (.tmp 172) 23 53 (.agg #[(.int .i64 0), (.int .i64 0), (.slice none 0 0)]) 40 rfl Try.underlying23 info53 rfl (by decide) (by omega) (.slice Ao out.length co) out ⟨y.f0, y.f1, l⟩ [.int .i64 y.f0, .int .i64 y.f1, .slice A8 l.length c8] (fun q => q ≠ w.heap.size ∧ q ≠ w.heap.size + 1 ∧ q ≠ w.heap.size + 1 + 1 ∧ q ≠ w.heap.size + 1 + 1 + 1) (fun q => wr.heap.size ≤ q) rfl rfl ?aP ?aK ?aF ?aO ?aB ?aS ?aL ?_; (case aP => exact k53_mkM _ _ _ ⟨y.f0, y.f1, l⟩ HRR.out); (case aK => exact fun q hq => ⟨HN.out q hq, hown.out q hq⟩); (case aF => exact fun q hq => HN.out q (Nat.le_trans HSZ.out hq)); (case aO => exact HOZ.out); (case aB => exact below_then HB.out HB.out.size HBR.out); (case aS => exact Nat.le_trans HB.out.size HSZ.out); (case aL => omega); intro v9 w5 ho hb hg hat; have HO5 := Aside0.mk ho; have HB5 := Aside0.mk hb; have HG5 := Aside0.mk hg; clear ho hb hg hat))
                go_roundg gk
                case measure => have := HK.out; omega
                case rel =>
                  refine ⟨(x :: t), u, out ++ [⟨y.f0, y.f1, l⟩], pa, (pb ++ [y]), rfl, by rw [List.length_append, List.length_singleton]; go_num, HP1, ⟨by rw [HP2.out, List.append_assoc]; rfl⟩, HY, ⟨by have := HK.out; omega⟩, HO5, ⟨blk_grown (blk_below H3.out HBR.out) HG5.out N3.out⟩, ⟨blk_grown (blk_below H4.out HBR.out) HG5.out N4.out⟩, ⟨blk_grown (blk_below H5.out HBR.out) HG5.out N5.out⟩, ⟨blk_grown (blk_below H6.out HBR.out) HG5.out N6.out⟩, HB5⟩
              · rw [if_neg hlen] at H
                cases H
        case cD =>
          rintro ⟨x, t, y, u, rfl, rfl, ha, q0', q1', rfl⟩
          clear hn
          obtain ⟨ad, Ax, cx, rfl, hx0, hx1, hx2, hx3, hx4⟩ := slot_at HR1.out HP1.out HB.out
          have F3x := Aside0.mk hx3
          have F4x := Aside0.mk hx4
          clear hx3 hx4
          have i1 : (pa.length : Int) < (l1_0.length : Int) := by have := congrArg List.length HP1.out; rw [List.length_append, List.length_cons] at this; omega
          have i0 : (0 : Int) ≤ (pa.length : Int) := by omega
          have i2 : pa.length < l1_0.length := by omega
          have e1 : decide (pa.length < l1_0.length) = true := decide_eq_true i2
          have e1i : decide ((pa.length : Int) < (l1_0.length : Int)) = true := decide_eq_true i1
          obtain ⟨bd, Ay, cy, rfl, hy0, hy1, hy2, hy3, hy4⟩ := slot_at HR2.out HP2.out HB.out
          have F3y := Aside0.mk hy3
          have F4y := Aside0.mk hy4
          clear hy3 hy4
          have j1 : (pb.length : Int) < (l2_0.length : Int) := by have := congrArg List.length HP2.out; rw [List.length_append, List.length_cons] at this; omega
          have j0 : (0 : Int) ≤ (pb.length : Int) := by omega
          have j2 : pb.length < l2_0.length := by omega
          have e2 : decide (pb.length < l2_0.length) = true := decide_eq_true j2
          have e2i : decide ((pb.length : Int) < (l2_0.length : Int)) = true := decide_eq_true j1
          have e3 : decide (l2_0.length ≤ pb.length) = false := decide_eq_false (by omega)
          have e3i : decide ((l2_0.length : Int) ≤ (pb.length : Int)) = false := decide_eq_false (by omega)
          have q0 : decide (x.f0 = x.f0) = true := decide_eq_true rfl
          have q1 : decide (x.f1 = x.f1) = true := decide_eq_true rfl
          have p0 : decide (y.f0 = x.f0) = true := decide_eq_true q0'.symm
          have p1 : decide (y.f1 = x.f1) = true := decide_eq_true q1'.symm
          have HA := Aside0.mk (show semvcsref25_Ahead.f y.f0 y.f1 x.f0 x.f1 = some false from (ahead_is y x).trans (congrArg some ha))
          have P0 := Aside0.mk q0'.symm
          have P1 := Aside0.mk q1'.symm
          clear ha q0' q1'
          go_wp2_with fail
          go_quiet ((go_at_call 34; (with_reducible refine (semvcsref25_Ahead.calls y.f0 y.f1 x.f0 x.f1 false _ HA.out).mono ?_); rintro e w' ⟨rfl, ⟨nd, rfl⟩⟩; exact ⟨rfl, _, World.drewN_drewN _ _ _⟩))
          go_wp2_with fail
          go_quiet (fail)
          go_wp2_with fail
          any_goals (first | exact absurd P0.out ‹¬ y.f0 = x.f0› | exact absurd P1.out (ne_of_beq_false ‹(y.f1 == x.f1) = false›) | skip)
          go_wp2_with fail
          refine (semvcsref25_Alts.calls gk (fun _ => True) A0_0 c0_0 l0_0 x.f0 x.f1 o _ ?sA HO1.out).mono ?_
          case sA => exact Kd.V_mk HC0.out (Kd.F_mono (Kd.C_F k53_heap (Kd.C_drewN (Kd.C_below HR0.out HB.out) _)) (fun _ _ => trivial))
          rintro e w1 ⟨v1, rfl, hV1, hb1⟩
          obtain ⟨A9, c9, rfl⟩ := Kd.V_slice hV1
          have hbq := Aside0.mk (below_step (pw_below_drewN (Below.refl _ wr) _) hb1)
          have HVC := Aside0.mk (Kd.V_reads' hV1)
          clear hV1 hb1
          go_wp2_with fail
          refine (semvcsref28_register.calls gk A9 c9 o Ax cx x.f2 Ay cy y.f2 l w1 HVC.out.2.2 HVC.out.2.1 (Kd.C_below F4x.out hbq.out) F3x.out (Kd.C_below F4y.out hbq.out) F3y.out HL1.out).mono ?_
          rintro e w2 ⟨v2, rfl, hR2, hb2⟩
          have hbr := below_step hbq.out hb2
          obtain ⟨A8, c8, rfl⟩ := Kd.R_slice hR2
          have HRR := Aside0.mk (Kd.R_lower (Kd.R_mono (ok' := fun q => wr.heap.size ≤ q) (Kd.R_bound hR2) (fun q hq => Nat.le_trans hbq.out.size hq.2.1)) (Nat.le_trans HB.out.size hbq.out.size))
          have HBR := Aside0.mk hbr
          clear hR2 hb2 hbr
          rcases list_cases l with rfl | ⟨mh, mt, hMe⟩
          · rw [show ([] : List S49).length = 0 from rfl]
            go_wp2_with fail
            go_roundg gk
            case measure => have := HK.out; omega
            case rel =>
              refine ⟨t, u, out, (pa ++ [x]), (pb ++ [y]), by rw [List.length_append, List.length_singleton]; go_num, by rw [List.length_append, List.length_singleton]; go_num, ⟨by rw [HP1.out, List.append_assoc]; rfl⟩, ⟨by rw [HP2.out, List.append_assoc]; rfl⟩, ⟨by have := HX.out; simpa using this⟩, ⟨by have := HK.out; omega⟩, ⟨Kd.R_below HO.out HBR.out⟩, ⟨blk_below H3.out HBR.out⟩, ⟨blk_below H4.out HBR.out⟩, ⟨blk_below H5.out HBR.out⟩, ⟨blk_below H6.out HBR.out⟩, ⟨below_then HB.out HB.out.size HBR.out⟩⟩
          · have hpos : (0 : Int) < (l.length : Int) := by rw [hMe, List.length_cons]; omega
            have hposb : decide ((0 : Int) < (l.length : Int)) = true := decide_eq_true hpos
            have hposn : 0 < l.length := by omega
            clear hMe
            have H := HX.out
            rw [if_pos hposn] at H
            by_cases hlen : out.length < 3518437208883
            · rw [if_pos hlen] at H
              have HY := Aside0.mk H
              clear H
              obtain ⟨Ao, co, rfl⟩ := Kd.R_slice HO.out
              have hsz := HBR.out.size
              have k3 := blk_lt H3.out
              have k4 := blk_lt H4.out
              have k5 := blk_lt H5.out
              have k6 := blk_lt H6.out
              have HOZ := Aside0.mk (Kd.R_below HO.out HBR.out)
              have HN := Aside0.mk (fun (q : Nat) (hq : wr.heap.size ≤ q) => show (q ≠ w.heap.size ∧ q ≠ w.heap.size + 1 ∧ q ≠ w.heap.size + 1 + 1 ∧ q ≠ w.heap.size + 1 + 1 + 1) from ⟨by omega, by omega, by omega, by omega⟩)
              have hown := Aside0.mk (fun (q : Nat) (hq : wr.heap.size ≤ q) => show some q ≠ (Value.slice Ao out.length co).ownBlock from fun e => by obtain ⟨inner, ho⟩ := Kd.R_own HO.out; have := own_lt ho q e.symm; omega)
              have HSZ := Aside0.mk hsz
              have h3 := blk_below H3.out HBR.out
              have h4 := blk_below H4.out HBR.out
              have h5 := blk_below H5.out HBR.out
              have h6 := blk_below H6.out HBR.out
              have N3 := Aside0.mk (Kd.R_ne HOZ.out h3 (by decide))
              have N4 := Aside0.mk (Kd.R_ne HOZ.out h4 (by decide))
              have N5 := Aside0.mk (Kd.R_ne HOZ.out h5 (by decide))
              have N6 := Aside0.mk (Kd.R_ne HOZ.out h6 (by decide))
              clear hsz k3 k4 k5 k6 h3 h4 h5 h6
              go_wp2_with (first | (at_builtin; refine Kd.R_append k53 (w0 := w) w.heap.size rfl (.tmp 167) (.tmp 172) 23 53 (.agg #[(.int .i64 0), (.int .i64 0), (.slice none 0 0)]) 40 rfl Try.underlying23 info53 rfl (by decide) (by omega) (.slice Ao out.length co) out ⟨x.f0, x.f1, l⟩ [.int .i64 x.f0, .int .i64 x.f1, .slice A8 l.length c8] (fun q => q ≠ w.heap.size ∧ q ≠ w.heap.size + 1 ∧ q ≠ w.heap.size + 1 + 1 ∧ q ≠ w.heap.size + 1 + 1 + 1) (fun q => wr.heap.size ≤ q) rfl rfl ?aP ?aK ?aF ?aO ?aB ?aS ?aL ?_; (case aP => exact k53_mkM _ _ _ ⟨x.f0, x.f1, l⟩ HRR.out); (case aK => exact fun q hq => ⟨HN.out q hq, hown.out q hq⟩); (case aF => exact fun q hq => HN.out q (Nat.le_trans HSZ.out hq)); (case aO => exact HOZ.out); (case aB => exact below_then HB.out HB.out.size HBR.out); (case aS => exact Nat.le_trans HB.out.size HSZ.out); (case aL => omega); intro v9 w5 ho hb hg hat; have HO5 := Aside0.mk ho; have HB5 := Aside0.mk hb; have HG5 := Aside0.mk hg; clear ho hb hg hat))
              go_roundg gk
              case measure => have := HK.out; omega
              case rel =>
                refine ⟨t, u, out ++ [⟨x.f0, x.f1, l⟩], (pa ++ [x]), (pb ++ [y]), by rw [List.length_append, List.length_singleton]; go_num, by rw [List.length_append, List.length_singleton]; go_num, ⟨by rw [HP1.out, List.append_assoc]; rfl⟩, ⟨by rw [HP2.out, List.append_assoc]; rfl⟩, HY, ⟨by have := HK.out; omega⟩, HO5, ⟨blk_grown (blk_below H3.out HBR.out) HG5.out N3.out⟩, ⟨blk_grown (blk_below H4.out HBR.out) HG5.out N4.out⟩, ⟨blk_grown (blk_below H5.out HBR.out) HG5.out N5.out⟩, ⟨blk_grown (blk_below H6.out HBR.out) HG5.out N6.out⟩, HB5⟩
            · rw [if_neg hlen] at H
              cases H
        case cE =>
          rintro ⟨x, t, y, u, rfl, rfl, ha, hne, rfl⟩
          clear hn
          obtain ⟨ad, Ax, cx, rfl, hx0, hx1, hx2, hx3, hx4⟩ := slot_at HR1.out HP1.out HB.out
          have F3x := Aside0.mk hx3
          have F4x := Aside0.mk hx4
          clear hx3 hx4
          have i1 : (pa.length : Int) < (l1_0.length : Int) := by have := congrArg List.length HP1.out; rw [List.length_append, List.length_cons] at this; omega
          have i0 : (0 : Int) ≤ (pa.length : Int) := by omega
          have i2 : pa.length < l1_0.length := by omega
          have e1 : decide (pa.length < l1_0.length) = true := decide_eq_true i2
          have e1i : decide ((pa.length : Int) < (l1_0.length : Int)) = true := decide_eq_true i1
          obtain ⟨bd, Ay, cy, rfl, hy0, hy1, hy2, hy3, hy4⟩ := slot_at HR2.out HP2.out HB.out
          have F3y := Aside0.mk hy3
          have F4y := Aside0.mk hy4
          clear hy3 hy4
          have j1 : (pb.length : Int) < (l2_0.length : Int) := by have := congrArg List.length HP2.out; rw [List.length_append, List.length_cons] at this; omega
          have j0 : (0 : Int) ≤ (pb.length : Int) := by omega
          have j2 : pb.length < l2_0.length := by omega
          have e2 : decide (pb.length < l2_0.length) = true := decide_eq_true j2
          have e2i : decide ((pb.length : Int) < (l2_0.length : Int)) = true := decide_eq_true j1
          have e3 : decide (l2_0.length ≤ pb.length) = false := decide_eq_false (by omega)
          have e3i : decide ((l2_0.length : Int) ≤ (pb.length : Int)) = false := decide_eq_false (by omega)
          have q0 : decide (x.f0 = x.f0) = true := decide_eq_true rfl
          have q1 : decide (x.f1 = x.f1) = true := decide_eq_true rfl
          have HA := Aside0.mk (show semvcsref25_Ahead.f y.f0 y.f1 x.f0 x.f1 = some false from (ahead_is y x).trans (congrArg some ha))
          have hd0 : ¬ (y.f0 = x.f0 ∧ y.f1 = x.f1) := fun e => hne ⟨e.1.symm, e.2.symm⟩
          have HD0 := Aside0.mk hd0
          clear hd0
          clear hne
          clear ha
          by_cases hq : y.f0 = x.f0
          · have p9 : decide (y.f0 = x.f0) = true := decide_eq_true hq
            have p8 : decide (y.f1 = x.f1) = false := decide_eq_false (fun e => HD0.out ⟨hq, e⟩)
            have P9 := Aside0.mk hq
            have P8 := Aside0.mk (show ¬ y.f1 = x.f1 by simpa using p8)
            clear hq
            go_wp2_with fail
            go_quiet ((go_at_call 34; (with_reducible refine (semvcsref25_Ahead.calls y.f0 y.f1 x.f0 x.f1 false _ HA.out).mono ?_); rintro e w' ⟨rfl, ⟨nd, rfl⟩⟩; exact ⟨rfl, _, World.drewN_drewN _ _ _⟩))
            go_wp2_with fail
            go_quiet (fail)
            go_wp2_with fail
            any_goals (first | exact absurd P9.out ‹¬ y.f0 = x.f0› | exact absurd (eq_of_beq ‹(y.f1 == x.f1) = true›) P8.out | skip)
            go_wp2_with fail
            refine (semvcsref25_Alts.calls gk (fun _ => True) A0_0 c0_0 l0_0 x.f0 x.f1 o _ ?sA HO1.out).mono ?_
            case sA => exact Kd.V_mk HC0.out (Kd.F_mono (Kd.C_F k53_heap (Kd.C_drewN (Kd.C_below HR0.out HB.out) _)) (fun _ _ => trivial))
            rintro e w1 ⟨v1, rfl, hV1, hb1⟩
            obtain ⟨A9, c9, rfl⟩ := Kd.V_slice hV1
            have hbq := Aside0.mk (below_step (pw_below_drewN (Below.refl _ wr) _) hb1)
            have HVC := Aside0.mk (Kd.V_reads' hV1)
            clear hV1 hb1
            go_wp2_with fail
            refine (semvcsref28_register.calls gk A9 c9 o Ax cx x.f2 none 0 [] l w1 HVC.out.2.2 HVC.out.2.1 (Kd.C_below F4x.out hbq.out) F3x.out (Kd.C_nil _ _) (Nat.le_refl 0) HL1.out).mono ?_
            rintro e w2 ⟨v2, rfl, hR2, hb2⟩
            have hbr := below_step hbq.out hb2
            obtain ⟨A8, c8, rfl⟩ := Kd.R_slice hR2
            have HRR := Aside0.mk (Kd.R_lower (Kd.R_mono (ok' := fun q => wr.heap.size ≤ q) (Kd.R_bound hR2) (fun q hq => Nat.le_trans hbq.out.size hq.2.1)) (Nat.le_trans HB.out.size hbq.out.size))
            have HBR := Aside0.mk hbr
            clear hR2 hb2 hbr
            rcases list_cases l with rfl | ⟨mh, mt, hMe⟩
            · rw [show ([] : List S49).length = 0 from rfl]
              go_wp2_with fail
              go_roundg gk
              case measure => have := HK.out; omega
              case rel =>
                refine ⟨t, (y :: u), out, (pa ++ [x]), pb, by rw [List.length_append, List.length_singleton]; go_num, rfl, ⟨by rw [HP1.out, List.append_assoc]; rfl⟩, HP2, ⟨by have := HX.out; simpa using this⟩, ⟨by have := HK.out; omega⟩, ⟨Kd.R_below HO.out HBR.out⟩, ⟨blk_below H3.out HBR.out⟩, ⟨blk_below H4.out HBR.out⟩, ⟨blk_below H5.out HBR.out⟩, ⟨blk_below H6.out HBR.out⟩, ⟨below_then HB.out HB.out.size HBR.out⟩⟩
            · have hpos : (0 : Int) < (l.length : Int) := by rw [hMe, List.length_cons]; omega
              have hposb : decide ((0 : Int) < (l.length : Int)) = true := decide_eq_true hpos
              have hposn : 0 < l.length := by omega
              clear hMe
              have H := HX.out
              rw [if_pos hposn] at H
              by_cases hlen : out.length < 3518437208883
              · rw [if_pos hlen] at H
                have HY := Aside0.mk H
                clear H
                obtain ⟨Ao, co, rfl⟩ := Kd.R_slice HO.out
                have hsz := HBR.out.size
                have k3 := blk_lt H3.out
                have k4 := blk_lt H4.out
                have k5 := blk_lt H5.out
                have k6 := blk_lt H6.out
                have HOZ := Aside0.mk (Kd.R_below HO.out HBR.out)
                have HN := Aside0.mk (fun (q : Nat) (hq : wr.heap.size ≤ q) => show (q ≠ w.heap.size ∧ q ≠ w.heap.size + 1 ∧ q ≠ w.heap.size + 1 + 1 ∧ q ≠ w.heap.size + 1 + 1 + 1) from ⟨by omega, by omega, by omega, by omega⟩)
                have hown := Aside0.mk (fun (q : Nat) (hq : wr.heap.size ≤ q) => show some q ≠ (Value.slice Ao out.length co).ownBlock from fun e => by obtain ⟨inner, ho⟩ := Kd.R_own HO.out; have := own_lt ho q e.symm; omega)
                have HSZ := Aside0.mk hsz
                have h3 := blk_below H3.out HBR.out
                have h4 := blk_below H4.out HBR.out
                have h5 := blk_below H5.out HBR.out
                have h6 := blk_below H6.out HBR.out
                have N3 := Aside0.mk (Kd.R_ne HOZ.out h3 (by decide))
                have N4 := Aside0.mk (Kd.R_ne HOZ.out h4 (by decide))
                have N5 := Aside0.mk (Kd.R_ne HOZ.out h5 (by decide))
                have N6 := Aside0.mk (Kd.R_ne HOZ.out h6 (by decide))
                clear hsz k3 k4 k5 k6 h3 h4 h5 h6
                go_wp2_with (first | (at_builtin; refine Kd.R_append k53 (w0 := w) w.heap.size rfl (.tmp 167) (.tmp 172) 23 53 (.agg #[(.int .i64 0), (.int .i64 0), (.slice none 0 0)]) 40 rfl Try.underlying23 info53 rfl (by decide) (by omega) (.slice Ao out.length co) out ⟨x.f0, x.f1, l⟩ [.int .i64 x.f0, .int .i64 x.f1, .slice A8 l.length c8] (fun q => q ≠ w.heap.size ∧ q ≠ w.heap.size + 1 ∧ q ≠ w.heap.size + 1 + 1 ∧ q ≠ w.heap.size + 1 + 1 + 1) (fun q => wr.heap.size ≤ q) rfl rfl ?aP ?aK ?aF ?aO ?aB ?aS ?aL ?_; (case aP => exact k53_mkM _ _ _ ⟨x.f0, x.f1, l⟩ HRR.out); (case aK => exact fun q hq => ⟨HN.out q hq, hown.out q hq⟩); (case aF => exact fun q hq => HN.out q (Nat.le_trans HSZ.out hq)); (case aO => exact HOZ.out); (case aB => exact below_then HB.out HB.out.size HBR.out); (case aS => exact Nat.le_trans HB.out.size HSZ.out); (case aL => omega); intro v9 w5 ho hb hg hat; have HO5 := Aside0.mk ho; have HB5 := Aside0.mk hb; have HG5 := Aside0.mk hg; clear ho hb hg hat))
                go_roundg gk
                case measure => have := HK.out; omega
                case rel =>
                  refine ⟨t, (y :: u), out ++ [⟨x.f0, x.f1, l⟩], (pa ++ [x]), pb, by rw [List.length_append, List.length_singleton]; go_num, rfl, ⟨by rw [HP1.out, List.append_assoc]; rfl⟩, HP2, HY, ⟨by have := HK.out; omega⟩, HO5, ⟨blk_grown (blk_below H3.out HBR.out) HG5.out N3.out⟩, ⟨blk_grown (blk_below H4.out HBR.out) HG5.out N4.out⟩, ⟨blk_grown (blk_below H5.out HBR.out) HG5.out N5.out⟩, ⟨blk_grown (blk_below H6.out HBR.out) HG5.out N6.out⟩, HB5⟩
              · rw [if_neg hlen] at H
                cases H
          · have p9 : decide (y.f0 = x.f0) = false := decide_eq_false hq
            have P9 := Aside0.mk hq
            clear hq
            go_wp2_with fail
            go_quiet ((go_at_call 34; (with_reducible refine (semvcsref25_Ahead.calls y.f0 y.f1 x.f0 x.f1 false _ HA.out).mono ?_); rintro e w' ⟨rfl, ⟨nd, rfl⟩⟩; exact ⟨rfl, _, World.drewN_drewN _ _ _⟩))
            go_wp2_with fail
            go_quiet (fail)
            go_wp2_with fail
            any_goals (first | exact absurd ‹y.f0 = x.f0› P9.out | skip)
            go_wp2_with fail
            refine (semvcsref25_Alts.calls gk (fun _ => True) A0_0 c0_0 l0_0 x.f0 x.f1 o _ ?sA HO1.out).mono ?_
            case sA => exact Kd.V_mk HC0.out (Kd.F_mono (Kd.C_F k53_heap (Kd.C_drewN (Kd.C_below HR0.out HB.out) _)) (fun _ _ => trivial))
            rintro e w1 ⟨v1, rfl, hV1, hb1⟩
            obtain ⟨A9, c9, rfl⟩ := Kd.V_slice hV1
            have hbq := Aside0.mk (below_step (pw_below_drewN (Below.refl _ wr) _) hb1)
            have HVC := Aside0.mk (Kd.V_reads' hV1)
            clear hV1 hb1
            go_wp2_with fail
            refine (semvcsref28_register.calls gk A9 c9 o Ax cx x.f2 none 0 [] l w1 HVC.out.2.2 HVC.out.2.1 (Kd.C_below F4x.out hbq.out) F3x.out (Kd.C_nil _ _) (Nat.le_refl 0) HL1.out).mono ?_
            rintro e w2 ⟨v2, rfl, hR2, hb2⟩
            have hbr := below_step hbq.out hb2
            obtain ⟨A8, c8, rfl⟩ := Kd.R_slice hR2
            have HRR := Aside0.mk (Kd.R_lower (Kd.R_mono (ok' := fun q => wr.heap.size ≤ q) (Kd.R_bound hR2) (fun q hq => Nat.le_trans hbq.out.size hq.2.1)) (Nat.le_trans HB.out.size hbq.out.size))
            have HBR := Aside0.mk hbr
            clear hR2 hb2 hbr
            rcases list_cases l with rfl | ⟨mh, mt, hMe⟩
            · rw [show ([] : List S49).length = 0 from rfl]
              go_wp2_with fail
              go_roundg gk
              case measure => have := HK.out; omega
              case rel =>
                refine ⟨t, (y :: u), out, (pa ++ [x]), pb, by rw [List.length_append, List.length_singleton]; go_num, rfl, ⟨by rw [HP1.out, List.append_assoc]; rfl⟩, HP2, ⟨by have := HX.out; simpa using this⟩, ⟨by have := HK.out; omega⟩, ⟨Kd.R_below HO.out HBR.out⟩, ⟨blk_below H3.out HBR.out⟩, ⟨blk_below H4.out HBR.out⟩, ⟨blk_below H5.out HBR.out⟩, ⟨blk_below H6.out HBR.out⟩, ⟨below_then HB.out HB.out.size HBR.out⟩⟩
            · have hpos : (0 : Int) < (l.length : Int) := by rw [hMe, List.length_cons]; omega
              have hposb : decide ((0 : Int) < (l.length : Int)) = true := decide_eq_true hpos
              have hposn : 0 < l.length := by omega
              clear hMe
              have H := HX.out
              rw [if_pos hposn] at H
              by_cases hlen : out.length < 3518437208883
              · rw [if_pos hlen] at H
                have HY := Aside0.mk H
                clear H
                obtain ⟨Ao, co, rfl⟩ := Kd.R_slice HO.out
                have hsz := HBR.out.size
                have k3 := blk_lt H3.out
                have k4 := blk_lt H4.out
                have k5 := blk_lt H5.out
                have k6 := blk_lt H6.out
                have HOZ := Aside0.mk (Kd.R_below HO.out HBR.out)
                have HN := Aside0.mk (fun (q : Nat) (hq : wr.heap.size ≤ q) => show (q ≠ w.heap.size ∧ q ≠ w.heap.size + 1 ∧ q ≠ w.heap.size + 1 + 1 ∧ q ≠ w.heap.size + 1 + 1 + 1) from ⟨by omega, by omega, by omega, by omega⟩)
                have hown := Aside0.mk (fun (q : Nat) (hq : wr.heap.size ≤ q) => show some q ≠ (Value.slice Ao out.length co).ownBlock from fun e => by obtain ⟨inner, ho⟩ := Kd.R_own HO.out; have := own_lt ho q e.symm; omega)
                have HSZ := Aside0.mk hsz
                have h3 := blk_below H3.out HBR.out
                have h4 := blk_below H4.out HBR.out
                have h5 := blk_below H5.out HBR.out
                have h6 := blk_below H6.out HBR.out
                have N3 := Aside0.mk (Kd.R_ne HOZ.out h3 (by decide))
                have N4 := Aside0.mk (Kd.R_ne HOZ.out h4 (by decide))
                have N5 := Aside0.mk (Kd.R_ne HOZ.out h5 (by decide))
                have N6 := Aside0.mk (Kd.R_ne HOZ.out h6 (by decide))
                clear hsz k3 k4 k5 k6 h3 h4 h5 h6
                go_wp2_with (first | (at_builtin; refine Kd.R_append k53 (w0 := w) w.heap.size rfl (.tmp 167) (.tmp 172) 23 53 (.agg #[(.int .i64 0), (.int .i64 0), (.slice none 0 0)]) 40 rfl Try.underlying23 info53 rfl (by decide) (by omega) (.slice Ao out.length co) out ⟨x.f0, x.f1, l⟩ [.int .i64 x.f0, .int .i64 x.f1, .slice A8 l.length c8] (fun q => q ≠ w.heap.size ∧ q ≠ w.heap.size + 1 ∧ q ≠ w.heap.size + 1 + 1 ∧ q ≠ w.heap.size + 1 + 1 + 1) (fun q => wr.heap.size ≤ q) rfl rfl ?aP ?aK ?aF ?aO ?aB ?aS ?aL ?_; (case aP => exact k53_mkM _ _ _ ⟨x.f0, x.f1, l⟩ HRR.out); (case aK => exact fun q hq => ⟨HN.out q hq, hown.out q hq⟩); (case aF => exact fun q hq => HN.out q (Nat.le_trans HSZ.out hq)); (case aO => exact HOZ.out); (case aB => exact below_then HB.out HB.out.size HBR.out); (case aS => exact Nat.le_trans HB.out.size HSZ.out); (case aL => omega); intro v9 w5 ho hb hg hat; have HO5 := Aside0.mk ho; have HB5 := Aside0.mk hb; have HG5 := Aside0.mk hg; clear ho hb hg hat))
                go_roundg gk
                case measure => have := HK.out; omega
                case rel =>
                  refine ⟨t, (y :: u), out ++ [⟨x.f0, x.f1, l⟩], (pa ++ [x]), pb, by rw [List.length_append, List.length_singleton]; go_num, rfl, ⟨by rw [HP1.out, List.append_assoc]; rfl⟩, HP2, HY, ⟨by have := HK.out; omega⟩, HO5, ⟨blk_grown (blk_below H3.out HBR.out) HG5.out N3.out⟩, ⟨blk_grown (blk_below H4.out HBR.out) HG5.out N4.out⟩, ⟨blk_grown (blk_below H5.out HBR.out) HG5.out N5.out⟩, ⟨blk_grown (blk_below H6.out HBR.out) HG5.out N6.out⟩, HB5⟩
              · rw [if_neg hlen] at H
                cases H
end Go.Proofs.Ytcecekmhikmkhaa.M
