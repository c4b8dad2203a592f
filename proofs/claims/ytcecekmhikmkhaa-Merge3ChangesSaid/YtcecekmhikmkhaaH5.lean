/- The contract of merge3.rows at slots: it goes through three lists row by row; what it visits is what the plain function rowsOf lists. For every three lists that read as data, and every visitor that keeps an invariant. -/
import Derived.Test.YtcecekmhikmkhaaH0
import Derived.Test.YtcecekmhikmkhaaH3
import Derived.Test.YtcecekmhikmkhaaMx3
namespace Go.Proofs.Ytcecekmhikmkhaa.M
open Go.RowKit Go.Proofs.YtcecekmhikmkhaaW.PrintWords Go.Proofs.YtcecekmhikmkhaaW.PrintLast Go.Proofs.YtcecekmhikmkhaaW.PrintMore
set_option linter.unusedVariables false
set_option linter.unusedSimpArgs false
theorem ix55 (a b c : Value) (k : Nat) (hk : k < 3) (f : Nat → Value) (h0 : f 0 = a) (h1 : f 1 = b) (h2 : f 2 = c) (w : World) : (Instr.index 55 (.agg #[a, b, c]) (.int .i64 (k : Int))).run Try.prog w = .ok (f k) w := by
  rcases (by omega : k = 0 ∨ k = 1 ∨ k = 2) with rfl | rfl | rfl
  · rw [h0]; kernel_rfl
  · rw [h1]; kernel_rfl
  · rw [h2]; kernel_rfl
structure RstSlot (w0 w w' : World) (LB : Nat) (ok0 ok : Nat → Prop) (L : Nat → List S53) (A : Nat → Option Addr) (c : Nat → Nat) : Prop where
  blk : w'.heap[LB]? = some (.cells (arr3 fun i => .slice (A i) (L i).length (c i)) 55 (0, 0))
  rd : ∀ i, i < 3 → Kd.C k53 w0 (A i) (L i).length (L i)
  cap : ∀ i, i < 3 → (L i).length ≤ c i
  bel : Below w0.heap.size w0 w'
  kept : Kept w w' ok0
  okb : ∀ k, ok k → ok0 k ∨ w.heap.size ≤ k
  nok : ¬ ok LB
  le0 : w0.heap.size ≤ w.heap.size
  leB : w.heap.size ≤ LB
theorem headSlot {w0 w' : World} {A : Option Addr} {x : S53} {t : List S53} (h : Kd.C k53 w0 A (x :: t).length (x :: t)) (hb : Below w0.heap.size w0 w') : ∃ (ad : Addr) (A2 : Option Addr) (c2 : Nat), A = some ad ∧ Three w' ad x A2 c2 := by
  obtain ⟨ad, A2, c2, e, h0, h1, h2, h3, h4⟩ := at_T53 (Kd.C_below h hb) 0 (by omega) (by simp)
  exact ⟨ad, A2, c2, e, h0, h1, h2, h3, h4⟩
structure MidSlot (w0 wp w3 : World) (LB RB : Nat) (y : S53) (k : Nat) (L : Nat → List S53) (A : Nat → Option Addr) (c : Nat → Nat) (p A' : Nat → Option Addr) (c' : Nat → Nat) : Prop where
  bel : Below w0.heap.size w0 w3
  kept : Kept wp w3 (fun b => b = LB)
  rows : w3.heap[RB]? = some (.cells (arr3 fun i => .pointer (p i)) 58 (0, 0))
  lists : w3.heap[LB]? = some (.cells (arr3 fun i => .slice (A' i) (if i < k then (takeEq cmpS y (L i)).2 else L i).length (c' i)) 55 (0, 0))
  done : ∀ i, i < 3 → i < k → Slot? w0 (p i) (takeEq cmpS y (L i)).1 ∧ Kd.C k53 w0 (A' i) (takeEq cmpS y (L i)).2.length (takeEq cmpS y (L i)).2 ∧ (takeEq cmpS y (L i)).2.length ≤ c' i
  todo : ∀ i, k ≤ i → p i = none ∧ A' i = A i ∧ c' i = c i
theorem midSlot_start {w0 w wo wp : World} {LB : Nat} {ok0 ok : Nat → Prop} {L : Nat → List S53} {A : Nat → Option Addr} {c : Nat → Nat} {y : S53} (h : RstSlot w0 w wo LB ok0 ok L A c) (hb : Below wo.heap.size wo wp) (o : Obj) :
    MidSlot w0 wp ((wp.alloc o).alloc (.cells #[.pointer none, .pointer none, .pointer none] 58)) LB (wp.heap.size + 1) y 0 L A c (fun _ => none) A c where
  bel := below_then (below_then h.bel (Nat.le_trans h.le0 h.kept.1) hb) (Nat.le_trans (Nat.le_trans h.le0 h.kept.1) hb.size) (below_alloc (below_alloc (Below.refl _ _) _) _)
  kept := Kept.of_below (below_alloc (below_alloc (Below.refl _ _) _) _) _
  rows := by have := blk_new (wp.alloc o) (.cells #[.pointer none, .pointer none, .pointer none] 58); rw [World.size_alloc] at this; exact this
  lists := blk_below (blk_below h.blk hb) (below_alloc (below_alloc (Below.refl _ _) _) _)
  done := fun i _ hi => absurd hi (Nat.not_lt_zero _)
  todo := fun i _ => ⟨rfl, rfl, rfl⟩
theorem midSlot_below {w0 wp w3 w4 : World} {LB RB : Nat} {y : S53} {k : Nat} {L : Nat → List S53} {A : Nat → Option Addr} {c : Nat → Nat} {p A' : Nat → Option Addr} {c' : Nat → Nat} (h : MidSlot w0 wp w3 LB RB y k L A c p A' c') (hb : Below w3.heap.size w3 w4) (hle : w0.heap.size ≤ w3.heap.size) :
    MidSlot w0 wp w4 LB RB y k L A c p A' c' where
  bel := below_then h.bel hle hb
  kept := Kept.below h.kept hb
  rows := blk_below h.rows hb
  lists := blk_below h.lists hb
  done := h.done
  todo := h.todo
theorem midSlot_same {w0 wp w3 : World} {LB RB : Nat} {y : S53} {k : Nat} {L : Nat → List S53} {A : Nat → Option Addr} {c : Nat → Nat} {p A' : Nat → Option Addr} {c' : Nat → Nat} (hk : k < 3) (h : MidSlot w0 wp w3 LB RB y k L A c p A' c') (h1 : (takeEq cmpS y (L k)).1 = none) (h2 : (takeEq cmpS y (L k)).2 = L k) (hrd : Kd.C k53 w0 (A k) (L k).length (L k)) (hcap : (L k).length ≤ c k) :
    MidSlot w0 wp w3 LB RB y (k + 1) L A c p A' c' where
  bel := h.bel
  kept := h.kept
  rows := h.rows
  lists := by
    rw [h.lists]
    congr 2
    refine arr3_congr fun i hi => ?_
    by_cases e : i = k
    · subst e
      rw [if_neg (Nat.lt_irrefl _), if_pos (Nat.lt_succ_self _), h2]
    · by_cases e2 : i < k
      · rw [if_pos e2, if_pos (by omega)]
      · rw [if_neg e2, if_neg (by omega)]
  done := fun i hi hik => by
    by_cases e : i = k
    · subst e
      obtain ⟨e1, e2, e3⟩ := h.todo i (Nat.le_refl _)
      rw [h1, h2, e1, e2, e3]
      exact ⟨.inl ⟨rfl, rfl⟩, hrd, hcap⟩
    · exact h.done i hi (by omega)
  todo := fun i hi => h.todo i (by omega)
theorem takeSlot_skip {x y : S53} {t : List S53} (hc : ¬ cmpS x y = 0) : (takeEq cmpS y (x :: t)).1 = none ∧ (takeEq cmpS y (x :: t)).2 = x :: t := by
  simp [takeEq, hc]
theorem takeSlot_take {x y : S53} {t : List S53} (hc : cmpS x y = 0) : (takeEq cmpS y (x :: t)).1 = some x ∧ (takeEq cmpS y (x :: t)).2 = t := by
  simp [takeEq, hc]
theorem midSlot_take {w0 wp w3 : World} {LB RB : Nat} {x y : S53} {t : List S53} {k : Nat} {L : Nat → List S53} {A : Nat → Option Addr} {c : Nat → Nat} {p A' : Nat → Option Addr} {c' : Nat → Nat} {A1 : Option Addr} {ad : Addr} {cc : Nat} (hk : k < 3) (h : MidSlot w0 wp w3 LB RB y k L A c p A' c') (hL : L k = x :: t) (hc : cmpS x y = 0) (hrd : Kd.C k53 w0 A1 t.length t) (hcap : t.length ≤ cc) (hne : LB ≠ RB) (hB1 : w0.heap.size ≤ LB) (hB2 : w0.heap.size ≤ RB) (hF : Slot? w0 (some ad) (some x)) (hw : wp.heap.size ≤ RB) :
    MidSlot w0 wp ((w3.setCell ⟨RB, k, none⟩ (.pointer (some ad))).setCell ⟨LB, k, none⟩ (.slice A1 t.length cc)) LB RB y (k + 1) L A c (upd p k (some ad)) (upd A' k A1) (upd c' k cc) where
  bel := (h.bel.setCell hB2 _).setCell hB1 _
  kept := Kept.setCell (Kept.setCell h.kept (.inr hw) _) (.inl rfl) _
  rows := blk_far (blk_put h.rows k _ ((arr3_set hk _).trans (arr3_congr fun i _ => by unfold upd; by_cases e : i = k <;> simp [e]))) (Ne.symm hne) _
  lists := by
    refine blk_put (blk_far h.lists hne _) k _ ((arr3_set hk _).trans (arr3_congr fun i hi => ?_))
    have ht := takeSlot_take (t := t) hc
    by_cases e : i = k
    · subst e
      unfold upd
      rw [if_pos rfl, if_pos rfl, if_pos rfl, if_pos (Nat.lt_succ_self _), hL, ht.2]
    · unfold upd
      rw [if_neg e, if_neg e, if_neg e]
      dsimp only
      by_cases e2 : i < k
      · rw [if_pos e2, if_pos (by omega)]
      · rw [if_neg e2, if_neg (by omega)]
  done := fun i hi hik => by
    have ht := takeSlot_take (t := t) hc
    by_cases e : i = k
    · subst e
      unfold upd
      rw [if_pos rfl, if_pos rfl, if_pos rfl, hL, ht.1, ht.2]
      exact ⟨hF, hrd, hcap⟩
    · unfold upd
      rw [if_neg e, if_neg e, if_neg e]
      exact h.done i hi (by omega)
  todo := fun i hi => by
    unfold upd
    rw [if_neg (by omega), if_neg (by omega), if_neg (by omega)]
    exact h.todo i (by omega)
theorem cutSlot {w0 : World} {ad : Addr} {x : S53} {t : List S53} {cc : Nat} (h : Kd.C k53 w0 (some ad) (x :: t).length (x :: t)) (hc : (x :: t).length ≤ cc) :
    ∃ A1, (∀ W : World, (Instr.slice 23 (.slice (some ad) (t.length + 1) cc) (some (.int .i64 1)) none none).run Try.prog W = .ok (.slice A1 t.length (cc - 1)) W) ∧ Kd.C k53 w0 A1 t.length t := by
  obtain ⟨i0, hi0, _, hsz, _⟩ := info_parts info53
  exact ⟨_, cut_from (P := Try.prog) 23 53 .i64 Try.underlying23 hi0 3 hsz (some ad) (t.length + 1) cc 1 (by omega) (by omega), Kd.C_drop (m := 1) h (by simp) hc⟩
theorem rstSlot_next {w0 w wo wp w3 w4 : World} {LB RB : Nat} {ok0 ok : Nat → Prop} {y : S53} {L : Nat → List S53} {A : Nat → Option Addr} {c : Nat → Nat} {p A' : Nat → Option Addr} {c' : Nat → Nat} (h : RstSlot w0 w wo LB ok0 ok L A c) (hb : Below wo.heap.size wo wp) (m : MidSlot w0 wp w3 LB RB y 3 L A c p A' c')
    (hB4 : Below w0.heap.size w0 w4) (hK4 : Kept w3 w4 (fun k => ok k ∧ k < wo.heap.size)) :
    RstSlot w0 w w4 LB ok0 (fun k => (ok k ∧ k < wo.heap.size) ∨ w3.heap.size ≤ k) (restOf cmpS y L) A' c' where
  blk := by
    refine (blk_kept m.lists hK4 (fun hk => h.nok hk.1)).trans ?_
    congr 2
  rd := fun i hi => (m.done i hi hi).2.1
  cap := fun i hi => (m.done i hi hi).2.2
  bel := hB4
  kept := ((h.kept.below hb).then_ m.kept (fun k hk => .inr (by rw [hk]; exact h.leB))).then_ hK4 (fun k hk => h.okb k hk.1)
  okb := fun k hk => hk.elim (fun hk => h.okb k hk.1) (fun hk => .inr (Nat.le_trans (Nat.le_trans h.kept.1 (Nat.le_trans hb.size m.kept.1)) hk))
  nok := fun hk => hk.elim (fun hk => h.nok hk.1) (fun hk => by have := blk_lt m.lists; omega)
  le0 := h.le0
  leB := h.leB
set_option maxRecDepth 100000 in
set_option maxHeartbeats 16000000 in
theorem rowsSlot_calls (w0 w : World) (L0 : Nat → List S53) (A0 : Nat → Option Addr) (c0 : Nat → Nat) (fv : Nat) (lb : Array Value) (ok0 : Nat → Prop) (I : List (Row S53) → (Nat → Prop) → World → Prop)
    (hrd : ∀ i, i < 3 → Kd.C k53 w0 (A0 i) (L0 i).length (L0 i)) (hcap : ∀ i, i < 3 → (L0 i).length ≤ c0 i) (hbel : Below w0.heap.size w0 w) (hle : w0.heap.size ≤ w.heap.size)
    (eg : ∀ args W, (callFunc fv args).run Try.prog W = .ok (.enter fv args) W)
    (hV : ∀ done row rest ok wv p q r, done ++ row :: rest = rowsOf cmpS L0 → I done ok wv → Below w0.heap.size w0 wv → w0.heap.size ≤ wv.heap.size → Slot? wv p row.1 → Slot? wv q row.2.1 → Slot? wv r row.2.2 →
      Calls Try.prog fv (#[.agg #[.pointer p, .pointer q, .pointer r]] ++ lb) wv fun e w' => e = .returned (.tuple #[]) ∧ I (done ++ [row]) (fun k => ok k ∨ wv.heap.size ≤ k) w' ∧ Below w0.heap.size w0 w' ∧ Kept wv w' ok)
    (hM : ∀ done ok wv w', I done ok wv → (∀ k, ok k → k < wv.heap.size → w'.heap[k]? = wv.heap[k]?) → I done (fun k => ok k ∧ k < wv.heap.size) w')
    (hI : I [] ok0 w) :
    Calls Try.prog 28 #[.agg #[.slice (A0 0) (L0 0).length (c0 0), .slice (A0 1) (L0 1).length (c0 1), .slice (A0 2) (L0 2).length (c0 2)], .func (.func 29) #[] #[], .func (.func fv) #[] lb] w fun e w' => e = .returned (.tuple #[]) ∧ (∃ ok, I (rowsOf cmpS L0) ok w') ∧ Below w0.heap.size w0 w' ∧ Kept w w' ok0 := by
  have EG := Aside0.mk eg
  have HV := Aside0.mk hV
  have HM := Aside0.mk hM
  clear eg hV hM
  have ST0 : Aside0 (RstSlot w0 w (w.alloc (.cells #[.slice (A0 0) (L0 0).length (c0 0), .slice (A0 1) (L0 1).length (c0 1), .slice (A0 2) (L0 2).length (c0 2)] 55)) w.heap.size ok0 (fun k => ok0 k ∧ k < w.heap.size) L0 A0 c0) := ⟨⟨blk_new _ _, hrd, hcap, below_then hbel hle (below_alloc (Below.refl _ _) _), Kept.alloc (Kept.refl _ _) _, fun k hk => .inl hk.1, fun hk => Nat.lt_irrefl _ hk.2, hle, Nat.le_refl _⟩⟩
  have HI := Aside0.mk (HM.out _ _ _ (w.alloc (.cells #[.slice (A0 0) (L0 0).length (c0 0), .slice (A0 1) (L0 1).length (c0 1), .slice (A0 2) (L0 2).length (c0 2)] 55)) hI (fun k _ hlt => Below.heap_alloc w _ k hlt))
  clear hrd hcap hbel hle hI
  go_enter Try.func28, Try.ntmps28
  go_wp2_with fail
  go_loopg [] (total L0 + 1) (fun kq wr => ∃ (L : Nat → List S53) (A : Nat → Option Addr) (c : Nat → Nat) (ok : Nat → Prop) (done : List (Row S53)), Aside0 (total L < kq) ∧ Aside0 (done ++ rowsOf cmpS L = rowsOf cmpS L0) ∧ Aside0 (RstSlot w0 w wr w.heap.size ok0 ok L A c) ∧ Aside0 (I done ok wr))
  case atStart => exact ⟨L0, A0, c0, _, [], ⟨Nat.lt_succ_self _⟩, ⟨rfl⟩, ST0, HI⟩
  case round =>
    clear ST0 HI
    obtain ⟨L, A, c, ok, done, HK, HD, ST, HI⟩ := hrel
    have bk := (blk_cell ST.out.blk 0).trans rfl
    have bk0 : wr.cell? ⟨w.heap.size, 0, none⟩ = some (.slice (A 0) (L 0).length (c 0)) := (blk_cell ST.out.blk 0).trans rfl
    have bk1 : wr.cell? ⟨w.heap.size, 1, none⟩ = some (.slice (A 1) (L 1).length (c 1)) := (blk_cell ST.out.blk 1).trans rfl
    have bk2 : wr.cell? ⟨w.heap.size, 2, none⟩ = some (.slice (A 2) (L 2).length (c 2)) := (blk_cell ST.out.blk 2).trans rfl
    clear bk
    go_wp2_with fail
    obtain ⟨wo, rfl⟩ : ∃ wo : World, wo = wr := ⟨_, rfl⟩
    go_loopg [6, 14] 4 (fun kq v6 v14 w2 => ∃ k : Nat, v14 = .int .i64 k ∧ k ≤ 3 ∧ Aside0 (kq + k = 4) ∧ v6 = .int .i64 (liOf (minUpTo cmpS L k)) ∧ Aside0 (Below wo.heap.size wo w2))
    case atStart => exact ⟨0, rfl, by omega, ⟨rfl⟩, rfl, ⟨Below.refl _ _⟩⟩
    case round =>
      clear bk0 bk1 bk2
      obtain ⟨k, rfl, hk3, HQ, rfl, HB2⟩ := hrel
      rcases Nat.lt_or_ge k 3 with hk | hk
      · have hk0 : (k : Int) < 3 := by omega
        have hix := ix55 (.slice (A 0) (L 0).length (c 0)) (.slice (A 1) (L 1).length (c 1)) (.slice (A 2) (L 2).length (c 2)) k hk (fun i => .slice (A i) (L i).length (c i)) rfl rfl rfl
        go_wp2_with fail
        clear hix
        rcases list_cases (L k) with hLk | ⟨x, t, hLk⟩
        · skip
          have HLk := Aside0.mk hLk
          rw [show (L k).length = 0 by rw [hLk]; rfl]
          clear hLk
          refine start_ (n := 20) (S := fun w' => True) (ds := []) #[false, false, false, false, false, false, false, false, false, false, false, false, false, false, false, false, false, false, false, false] (by kernel_rfl) rfl rfl trivial (fun hHeld => ?_)
          refine pure_ (i := 0) (N := some 18) (v := ?_) (a' := ?_) #[true, false, false, false, false, false, false, false, false, false, false, false, false, false, false, false, false, false, false, false] rfl rfl (by kernel_rfl) (fun _ _ _ h => h) (Or.inl ⟨by rfl, ?_⟩) ?_ ?_
          rotate_left
          · intro w'
            go_simp
            with_reducible rfl
          rotate_left
          · simp only [Act.put, List.setIfInBounds_toArray, List.set_cons_zero, List.set_cons_succ, i64_w, i32_w]
            rfl
          refine pure_ (i := 1) (N := some 19) (v := ?_) (a' := ?_) #[true, true, false, false, false, false, false, false, false, false, false, false, false, false, false, false, false, false, false, false] rfl rfl (by kernel_rfl) (fun _ _ _ h => h) (Or.inl ⟨by rfl, ?_⟩) ?_ ?_
          rotate_left
          · intro w'
            go_simp
            with_reducible rfl
          rotate_left
          · simp only [Act.put, List.setIfInBounds_toArray, List.set_cons_zero, List.set_cons_succ, i64_w, i32_w]
            rfl
          refine pure_ (i := 2) (N := some 20) (v := ?_) (a' := ?_) #[true, true, true, false, false, false, false, false, false, false, false, false, false, false, false, false, false, false, false, false] rfl rfl (by kernel_rfl) (fun _ _ _ h => h) (Or.inl ⟨by rfl, ?_⟩) ?_ ?_
          rotate_left
          · intro w'
            go_simp
            with_reducible rfl
          rotate_left
          · simp only [Act.put, List.setIfInBounds_toArray, List.set_cons_zero, List.set_cons_succ, i64_w, i32_w]
            rfl
          refine pure_ (i := 3) (N := some 21) (v := ?_) (a' := ?_) #[true, true, true, true, false, false, false, false, false, false, false, false, false, false, false, false, false, false, false, false] rfl rfl (by kernel_rfl) (fun _ _ _ h => h) (Or.inl ⟨by rfl, ?_⟩) ?_ ?_
          rotate_left
          · intro w'
            go_simp
            with_reducible rfl
          rotate_left
          · simp only [Act.put, List.setIfInBounds_toArray, List.set_cons_zero, List.set_cons_succ, i64_w, i32_w]
            rfl
          refine pure_ (i := 4) (N := some 22) (v := undef) (a' := ?_) #[true, true, true, true, true, false, false, false, false, false, false, false, false, false, false, false, false, false, false, false] rfl rfl (by kernel_rfl) (fun _ _ _ h => h) (Or.inr ⟨by rfl, rfl⟩) ?_ ?_
          rotate_left
          · simp only [Act.put, List.setIfInBounds_toArray, List.set_cons_zero, List.set_cons_succ, i64_w, i32_w]
            rfl
          refine pure_ (i := 5) (N := some 23) (v := undef) (a' := ?_) #[true, true, true, true, true, true, false, false, false, false, false, false, false, false, false, false, false, false, false, false] rfl rfl (by kernel_rfl) (fun _ _ _ h => h) (Or.inr ⟨by rfl, rfl⟩) ?_ ?_
          rotate_left
          · simp only [Act.put, List.setIfInBounds_toArray, List.set_cons_zero, List.set_cons_succ, i64_w, i32_w]
            rfl
          refine pure_ (i := 6) (N := some 24) (v := undef) (a' := ?_) #[true, true, true, true, true, true, true, false, false, false, false, false, false, false, false, false, false, false, false, false] rfl rfl (by kernel_rfl) (fun _ _ _ h => h) (Or.inr ⟨by rfl, rfl⟩) ?_ ?_
          rotate_left
          · simp only [Act.put, List.setIfInBounds_toArray, List.set_cons_zero, List.set_cons_succ, i64_w, i32_w]
            rfl
          refine pure_ (i := 7) (N := some 25) (v := undef) (a' := ?_) #[true, true, true, true, true, true, true, true, false, false, false, false, false, false, false, false, false, false, false, false] rfl rfl (by kernel_rfl) (fun _ _ _ h => h) (Or.inr ⟨by rfl, rfl⟩) ?_ ?_
          rotate_left
          · simp only [Act.put, List.setIfInBounds_toArray, List.set_cons_zero, List.set_cons_succ, i64_w, i32_w]
            rfl
          refine pure_ (i := 8) (N := some 26) (v := undef) (a' := ?_) #[true, true, true, true, true, true, true, true, true, false, false, false, false, false, false, false, false, false, false, false] rfl rfl (by kernel_rfl) (fun _ _ _ h => h) (Or.inr ⟨by rfl, rfl⟩) ?_ ?_
          rotate_left
          · simp only [Act.put, List.setIfInBounds_toArray, List.set_cons_zero, List.set_cons_succ, i64_w, i32_w]
            rfl
          refine pure_ (i := 9) (N := some 27) (v := undef) (a' := ?_) #[true, true, true, true, true, true, true, true, true, true, false, false, false, false, false, false, false, false, false, false] rfl rfl (by kernel_rfl) (fun _ _ _ h => h) (Or.inr ⟨by rfl, rfl⟩) ?_ ?_
          rotate_left
          · simp only [Act.put, List.setIfInBounds_toArray, List.set_cons_zero, List.set_cons_succ, i64_w, i32_w]
            rfl
          refine pure_ (i := 10) (N := some 28) (v := undef) (a' := ?_) #[true, true, true, true, true, true, true, true, true, true, true, false, false, false, false, false, false, false, false, false] rfl rfl (by kernel_rfl) (fun _ _ _ h => h) (Or.inr ⟨by rfl, rfl⟩) ?_ ?_
          rotate_left
          · simp only [Act.put, List.setIfInBounds_toArray, List.set_cons_zero, List.set_cons_succ, i64_w, i32_w]
            rfl
          refine pure_ (i := 11) (N := some 29) (v := undef) (a' := ?_) #[true, true, true, true, true, true, true, true, true, true, true, true, false, false, false, false, false, false, false, false] rfl rfl (by kernel_rfl) (fun _ _ _ h => h) (Or.inr ⟨by rfl, rfl⟩) ?_ ?_
          rotate_left
          · simp only [Act.put, List.setIfInBounds_toArray, List.set_cons_zero, List.set_cons_succ, i64_w, i32_w]
            rfl
          refine pure_ (i := 12) (N := some 30) (v := undef) (a' := ?_) #[true, true, true, true, true, true, true, true, true, true, true, true, true, false, false, false, false, false, false, false] rfl rfl (by kernel_rfl) (fun _ _ _ h => h) (Or.inr ⟨by rfl, rfl⟩) ?_ ?_
          rotate_left
          · simp only [Act.put, List.setIfInBounds_toArray, List.set_cons_zero, List.set_cons_succ, i64_w, i32_w]
            rfl
          refine pure_ (i := 13) (N := some 31) (v := undef) (a' := ?_) #[true, true, true, true, true, true, true, true, true, true, true, true, true, true, false, false, false, false, false, false] rfl rfl (by kernel_rfl) (fun _ _ _ h => h) (Or.inr ⟨by rfl, rfl⟩) ?_ ?_
          rotate_left
          · simp only [Act.put, List.setIfInBounds_toArray, List.set_cons_zero, List.set_cons_succ, i64_w, i32_w]
            rfl
          refine pure_ (i := 14) (N := some 32) (v := undef) (a' := ?_) #[true, true, true, true, true, true, true, true, true, true, true, true, true, true, true, false, false, false, false, false] rfl rfl (by kernel_rfl) (fun _ _ _ h => h) (Or.inr ⟨by rfl, rfl⟩) ?_ ?_
          rotate_left
          · simp only [Act.put, List.setIfInBounds_toArray, List.set_cons_zero, List.set_cons_succ, i64_w, i32_w]
            rfl
          refine pure_ (i := 15) (N := some 33) (v := undef) (a' := ?_) #[true, true, true, true, true, true, true, true, true, true, true, true, true, true, true, true, false, false, false, false] rfl rfl (by kernel_rfl) (fun _ _ _ h => h) (Or.inr ⟨by rfl, rfl⟩) ?_ ?_
          rotate_left
          · simp only [Act.put, List.setIfInBounds_toArray, List.set_cons_zero, List.set_cons_succ, i64_w, i32_w]
            rfl
          refine pure_ (i := 16) (N := some 34) (v := undef) (a' := ?_) #[true, true, true, true, true, true, true, true, true, true, true, true, true, true, true, true, true, false, false, false] rfl rfl (by kernel_rfl) (fun _ _ _ h => h) (Or.inr ⟨by rfl, rfl⟩) ?_ ?_
          rotate_left
          · simp only [Act.put, List.setIfInBounds_toArray, List.set_cons_zero, List.set_cons_succ, i64_w, i32_w]
            rfl
          refine pure_ (i := 17) (N := some 35) (v := undef) (a' := ?_) #[true, true, true, true, true, true, true, true, true, true, true, true, true, true, true, true, true, true, false, false] rfl rfl (by kernel_rfl) (fun _ _ _ h => h) (Or.inr ⟨by rfl, rfl⟩) ?_ ?_
          rotate_left
          · simp only [Act.put, List.setIfInBounds_toArray, List.set_cons_zero, List.set_cons_succ, i64_w, i32_w]
            rfl
          refine pure_ (i := 18) (N := some 36) (v := undef) (a' := ?_) #[true, true, true, true, true, true, true, true, true, true, true, true, true, true, true, true, true, true, true, false] rfl rfl (by kernel_rfl) (fun _ _ _ h => h) (Or.inr ⟨by rfl, rfl⟩) ?_ ?_
          rotate_left
          · simp only [Act.put, List.setIfInBounds_toArray, List.set_cons_zero, List.set_cons_succ, i64_w, i32_w]
            rfl
          refine pure_ (i := 19) (N := some 37) (v := ?_) (a' := ?_) #[true, true, true, true, true, true, true, true, true, true, true, true, true, true, true, true, true, true, true, true] rfl rfl (by kernel_rfl) (fun _ _ _ h => h) (Or.inl ⟨by rfl, ?_⟩) ?_ ?_
          rotate_left
          · intro w'
            go_simp
            with_reducible rfl
          rotate_left
          · simp only [Act.put, List.setIfInBounds_toArray, List.set_cons_zero, List.set_cons_succ, i64_w, i32_w]
            rfl
          refine done_ (by kernel_rfl) ?_
          go_wp2_with fail
          go_roundg (3 - k)
          case measure => have := HQ.out; omega
          case rel => exact ⟨k + 1, by go_num, by omega, ⟨by have := HQ.out; omega⟩, by rw [minUpTo_nil HLk.out], ⟨below_drew HB2.out⟩⟩
        · skip
          have HLk := Aside0.mk hLk
          rw [show (L k).length = t.length + 1 by rw [hLk]; rfl]
          have hrk := ST.out.rd k hk
          rw [hLk] at hrk
          obtain ⟨ad, Ax, cx, eA, hF⟩ := headSlot hrk (below_then ST.out.bel (Nat.le_trans ST.out.le0 ST.out.kept.1) HB2.out)
          clear hrk hLk
          rw [eA]
          have HA := Aside0.mk eA
          clear eA
          rcases opt_cases (minUpTo cmpS L k) with hm | ⟨j, y, hm⟩
          · rw [hm]
            have HM1 := Aside0.mk hm
            clear hm
            refine start_ (n := 20) (S := fun w' => True) (ds := []) #[false, false, false, false, false, false, false, false, false, false, false, false, false, false, false, false, false, false, false, false] (by kernel_rfl) rfl rfl trivial (fun hHeld => ?_)
            refine pure_ (i := 0) (N := some 18) (v := ?_) (a' := ?_) #[true, false, false, false, false, false, false, false, false, false, false, false, false, false, false, false, false, false, false, false] rfl rfl (by kernel_rfl) (fun _ _ _ h => h) (Or.inl ⟨by rfl, ?_⟩) ?_ ?_
            rotate_left
            · intro w'
              go_simp
              with_reducible rfl
            rotate_left
            · simp only [Act.put, List.setIfInBounds_toArray, List.set_cons_zero, List.set_cons_succ, i64_w, i32_w]
              rfl
            refine pure_ (i := 1) (N := some 19) (v := ?_) (a' := ?_) #[true, true, false, false, false, false, false, false, false, false, false, false, false, false, false, false, false, false, false, false] rfl rfl (by kernel_rfl) (fun _ _ _ h => h) (Or.inl ⟨by rfl, ?_⟩) ?_ ?_
            rotate_left
            · intro w'
              go_simp
              with_reducible rfl
            rotate_left
            · simp only [Act.put, List.setIfInBounds_toArray, List.set_cons_zero, List.set_cons_succ, i64_w, i32_w]
              rfl
            refine pure_ (i := 2) (N := some 20) (v := ?_) (a' := ?_) #[true, true, true, false, false, false, false, false, false, false, false, false, false, false, false, false, false, false, false, false] rfl rfl (by kernel_rfl) (fun _ _ _ h => h) (Or.inl ⟨by rfl, ?_⟩) ?_ ?_
            rotate_left
            · intro w'
              go_simp
              with_reducible rfl
            rotate_left
            · simp only [Act.put, List.setIfInBounds_toArray, List.set_cons_zero, List.set_cons_succ, i64_w, i32_w]
              rfl
            refine pure_ (i := 3) (N := some 21) (v := ?_) (a' := ?_) #[true, true, true, true, false, false, false, false, false, false, false, false, false, false, false, false, false, false, false, false] rfl rfl (by kernel_rfl) (fun _ _ _ h => h) (Or.inl ⟨by rfl, ?_⟩) ?_ ?_
            rotate_left
            · intro w'
              go_simp
              with_reducible rfl
            rotate_left
            · simp only [Act.put, List.setIfInBounds_toArray, List.set_cons_zero, List.set_cons_succ, i64_w, i32_w]
              rfl
            refine pure_ (i := 4) (N := some 22) (v := ?_) (a' := ?_) #[true, true, true, true, true, false, false, false, false, false, false, false, false, false, false, false, false, false, false, false] rfl rfl (by kernel_rfl) (fun _ _ _ h => h) (Or.inl ⟨by rfl, ?_⟩) ?_ ?_
            rotate_left
            · intro w'
              go_simp
              with_reducible rfl
            rotate_left
            · simp only [Act.put, List.setIfInBounds_toArray, List.set_cons_zero, List.set_cons_succ, i64_w, i32_w]
              rfl
            refine pure_ (i := 5) (N := some 23) (v := ?_) (a' := ?_) #[true, true, true, true, true, true, false, false, false, false, false, false, false, false, false, false, false, false, false, false] rfl rfl (by kernel_rfl) (fun _ _ _ h => h) (Or.inl ⟨by rfl, ?_⟩) ?_ ?_
            rotate_left
            · intro w'
              go_simp
              with_reducible rfl
            rotate_left
            · simp only [Act.put, List.setIfInBounds_toArray, List.set_cons_zero, List.set_cons_succ, i64_w, i32_w]
              rfl
            refine pure_ (i := 6) (N := some 24) (v := ?_) (a' := ?_) #[true, true, true, true, true, true, true, false, false, false, false, false, false, false, false, false, false, false, false, false] rfl rfl (by kernel_rfl) (fun _ _ _ h => h) (Or.inl ⟨by rfl, ?_⟩) ?_ ?_
            rotate_left
            · intro w'
              go_simp
              with_reducible rfl
            rotate_left
            · simp only [Act.put, List.setIfInBounds_toArray, List.set_cons_zero, List.set_cons_succ, i64_w, i32_w]
              rfl
            refine pure_ (i := 7) (N := some 25) (v := undef) (a' := ?_) #[true, true, true, true, true, true, true, true, false, false, false, false, false, false, false, false, false, false, false, false] rfl rfl (by kernel_rfl) (fun _ _ _ h => h) (Or.inr ⟨by rfl, rfl⟩) ?_ ?_
            rotate_left
            · simp only [Act.put, List.setIfInBounds_toArray, List.set_cons_zero, List.set_cons_succ, i64_w, i32_w]
              rfl
            refine pure_ (i := 8) (N := some 26) (v := undef) (a' := ?_) #[true, true, true, true, true, true, true, true, true, false, false, false, false, false, false, false, false, false, false, false] rfl rfl (by kernel_rfl) (fun _ _ _ h => h) (Or.inr ⟨by rfl, rfl⟩) ?_ ?_
            rotate_left
            · simp only [Act.put, List.setIfInBounds_toArray, List.set_cons_zero, List.set_cons_succ, i64_w, i32_w]
              rfl
            refine pure_ (i := 9) (N := some 27) (v := undef) (a' := ?_) #[true, true, true, true, true, true, true, true, true, true, false, false, false, false, false, false, false, false, false, false] rfl rfl (by kernel_rfl) (fun _ _ _ h => h) (Or.inr ⟨by rfl, rfl⟩) ?_ ?_
            rotate_left
            · simp only [Act.put, List.setIfInBounds_toArray, List.set_cons_zero, List.set_cons_succ, i64_w, i32_w]
              rfl
            refine pure_ (i := 10) (N := some 28) (v := undef) (a' := ?_) #[true, true, true, true, true, true, true, true, true, true, true, false, false, false, false, false, false, false, false, false] rfl rfl (by kernel_rfl) (fun _ _ _ h => h) (Or.inr ⟨by rfl, rfl⟩) ?_ ?_
            rotate_left
            · simp only [Act.put, List.setIfInBounds_toArray, List.set_cons_zero, List.set_cons_succ, i64_w, i32_w]
              rfl
            refine pure_ (i := 11) (N := some 29) (v := undef) (a' := ?_) #[true, true, true, true, true, true, true, true, true, true, true, true, false, false, false, false, false, false, false, false] rfl rfl (by kernel_rfl) (fun _ _ _ h => h) (Or.inr ⟨by rfl, rfl⟩) ?_ ?_
            rotate_left
            · simp only [Act.put, List.setIfInBounds_toArray, List.set_cons_zero, List.set_cons_succ, i64_w, i32_w]
              rfl
            refine pure_ (i := 12) (N := some 30) (v := undef) (a' := ?_) #[true, true, true, true, true, true, true, true, true, true, true, true, true, false, false, false, false, false, false, false] rfl rfl (by kernel_rfl) (fun _ _ _ h => h) (Or.inr ⟨by rfl, rfl⟩) ?_ ?_
            rotate_left
            · simp only [Act.put, List.setIfInBounds_toArray, List.set_cons_zero, List.set_cons_succ, i64_w, i32_w]
              rfl
            refine pure_ (i := 13) (N := some 31) (v := undef) (a' := ?_) #[true, true, true, true, true, true, true, true, true, true, true, true, true, true, false, false, false, false, false, false] rfl rfl (by kernel_rfl) (fun _ _ _ h => h) (Or.inr ⟨by rfl, rfl⟩) ?_ ?_
            rotate_left
            · simp only [Act.put, List.setIfInBounds_toArray, List.set_cons_zero, List.set_cons_succ, i64_w, i32_w]
              rfl
            refine pure_ (i := 14) (N := some 32) (v := undef) (a' := ?_) #[true, true, true, true, true, true, true, true, true, true, true, true, true, true, true, false, false, false, false, false] rfl rfl (by kernel_rfl) (fun _ _ _ h => h) (Or.inr ⟨by rfl, rfl⟩) ?_ ?_
            rotate_left
            · simp only [Act.put, List.setIfInBounds_toArray, List.set_cons_zero, List.set_cons_succ, i64_w, i32_w]
              rfl
            refine pure_ (i := 15) (N := some 33) (v := undef) (a' := ?_) #[true, true, true, true, true, true, true, true, true, true, true, true, true, true, true, true, false, false, false, false] rfl rfl (by kernel_rfl) (fun _ _ _ h => h) (Or.inr ⟨by rfl, rfl⟩) ?_ ?_
            rotate_left
            · simp only [Act.put, List.setIfInBounds_toArray, List.set_cons_zero, List.set_cons_succ, i64_w, i32_w]
              rfl
            refine pure_ (i := 16) (N := some 34) (v := undef) (a' := ?_) #[true, true, true, true, true, true, true, true, true, true, true, true, true, true, true, true, true, false, false, false] rfl rfl (by kernel_rfl) (fun _ _ _ h => h) (Or.inr ⟨by rfl, rfl⟩) ?_ ?_
            rotate_left
            · simp only [Act.put, List.setIfInBounds_toArray, List.set_cons_zero, List.set_cons_succ, i64_w, i32_w]
              rfl
            refine pure_ (i := 17) (N := some 35) (v := undef) (a' := ?_) #[true, true, true, true, true, true, true, true, true, true, true, true, true, true, true, true, true, true, false, false] rfl rfl (by kernel_rfl) (fun _ _ _ h => h) (Or.inr ⟨by rfl, rfl⟩) ?_ ?_
            rotate_left
            · simp only [Act.put, List.setIfInBounds_toArray, List.set_cons_zero, List.set_cons_succ, i64_w, i32_w]
              rfl
            refine pure_ (i := 18) (N := some 36) (v := ?_) (a' := ?_) #[true, true, true, true, true, true, true, true, true, true, true, true, true, true, true, true, true, true, true, false] rfl rfl (by kernel_rfl) (fun _ _ _ h => h) (Or.inl ⟨by rfl, ?_⟩) ?_ ?_
            rotate_left
            · intro w'
              go_simp
              with_reducible rfl
            rotate_left
            · simp only [Act.put, List.setIfInBounds_toArray, List.set_cons_zero, List.set_cons_succ, i64_w, i32_w]
              rfl
            refine pure_ (i := 19) (N := some 37) (v := ?_) (a' := ?_) #[true, true, true, true, true, true, true, true, true, true, true, true, true, true, true, true, true, true, true, true] rfl rfl (by kernel_rfl) (fun _ _ _ h => h) (Or.inl ⟨by rfl, ?_⟩) ?_ ?_
            rotate_left
            · intro w'
              go_simp
              with_reducible rfl
            rotate_left
            · simp only [Act.put, List.setIfInBounds_toArray, List.set_cons_zero, List.set_cons_succ, i64_w, i32_w]
              rfl
            refine done_ (by kernel_rfl) ?_
            go_wp2_with fail
            go_roundg (3 - k)
            case measure => have := HQ.out; omega
            case rel => exact ⟨k + 1, by go_num, by omega, ⟨by have := HQ.out; omega⟩, by rw [minUpTo_first HLk.out HM1.out]; rfl, ⟨below_drew HB2.out⟩⟩
          · rw [hm]
            rw [show liOf (some (j, y)) = (j : Int) from rfl]
            obtain ⟨hjk, t', hLj⟩ := minUpTo_some hm
            have HM1 := Aside0.mk hm
            clear hm
            have hrj := ST.out.rd j (by omega)
            have hln : (L j).length = t'.length + 1 := by rw [hLj]; rfl
            have hcell : ∃ Aj : Addr, A j = some Aj ∧ wr.cell? ⟨w.heap.size, j, none⟩ = some (.slice (some Aj) (t'.length + 1) (c j)) ∧ ∃ Ay cy, Three wr Aj y Ay cy := by
              rw [hLj] at hrj
              obtain ⟨adj, Ay, cy, eAj, hFj⟩ := headSlot hrj (below_then ST.out.bel (Nat.le_trans ST.out.le0 ST.out.kept.1) HB2.out)
              refine ⟨adj, eAj, ?_, Ay, cy, hFj⟩
              rw [blk_cell (blk_below ST.out.blk HB2.out) j, ← eAj, ← hln]
              rcases (by omega : j = 0 ∨ j = 1 ∨ j = 2) with rfl | rfl | rfl <;> rfl
            clear hrj hln hLj
            obtain ⟨adj, eAj, hbj, Ay, cy, hFj⟩ := hcell
            have hj3 : (j : Int) < 3 := by omega
            have hj0 : decide ((j : Int) < 0) = false := decide_eq_false (by omega)
            by_cases hc : cmpS x y < 0
            · have hcb : decide (cmpS x y < 0) = true := decide_eq_true hc
              have HC := Aside0.mk hc
              clear hc
              have hxr := Kd.C_drew hF.2.2.2.2
              have hxc := hF.2.2.2.1
              have hyr := Kd.C_drew hFj.2.2.2.2
              have hyc := hFj.2.2.2.1
              refine start_ (n := 20) (S := fun w' => w'.cell? ad = some (.int .i64 x.f0) ∧ w'.cell? ⟨ad.block, ad.off + 1, none⟩ = some (.int .i64 x.f1) ∧ w'.cell? ⟨ad.block, ad.off + 2, none⟩ = some (.slice Ax x.f2.length cx) ∧ w'.cell? ⟨w.heap.size, j, none⟩ = some (.slice (some adj) (t'.length + 1) (c j)) ∧ w'.cell? adj = some (.int .i64 y.f0) ∧ w'.cell? ⟨adj.block, adj.off + 1, none⟩ = some (.int .i64 y.f1) ∧ w'.cell? ⟨adj.block, adj.off + 2, none⟩ = some (.slice Ay y.f2.length cy)) (ds := []) #[false, false, false, false, false, false, false, false, false, false, false, false, false, false, false, false, false, false, false, false] (by kernel_rfl) rfl rfl ⟨hF.1, hF.2.1, hF.2.2.1, hbj, hFj.1, hFj.2.1, hFj.2.2.1⟩ (fun hHeld => ?_)
              refine pure_ (i := 0) (N := some 18) (v := ?_) (a' := ?_) #[true, false, false, false, false, false, false, false, false, false, false, false, false, false, false, false, false, false, false, false] rfl rfl (by kernel_rfl) (fun _ _ _ h => h) (Or.inl ⟨by rfl, ?_⟩) ?_ ?_
              rotate_left
              · intro w'
                go_simp
                with_reducible rfl
              rotate_left
              · simp only [Act.put, List.setIfInBounds_toArray, List.set_cons_zero, List.set_cons_succ, i64_w, i32_w]
                rfl
              refine pure_ (i := 1) (N := some 19) (v := ?_) (a' := ?_) #[true, true, false, false, false, false, false, false, false, false, false, false, false, false, false, false, false, false, false, false] rfl rfl (by kernel_rfl) (fun _ _ _ h => h) (Or.inl ⟨by rfl, ?_⟩) ?_ ?_
              rotate_left
              · intro w'
                go_simp
                with_reducible rfl
              rotate_left
              · simp only [Act.put, List.setIfInBounds_toArray, List.set_cons_zero, List.set_cons_succ, i64_w, i32_w]
                rfl
              refine pure_ (i := 2) (N := some 20) (v := ?_) (a' := ?_) #[true, true, true, false, false, false, false, false, false, false, false, false, false, false, false, false, false, false, false, false] rfl rfl (by kernel_rfl) (fun _ _ _ h => h) (Or.inl ⟨by rfl, ?_⟩) ?_ ?_
              rotate_left
              · intro w'
                go_simp
                with_reducible rfl
              rotate_left
              · simp only [Act.put, List.setIfInBounds_toArray, List.set_cons_zero, List.set_cons_succ, i64_w, i32_w]
                rfl
              refine pure_ (i := 3) (N := some 21) (v := ?_) (a' := ?_) #[true, true, true, true, false, false, false, false, false, false, false, false, false, false, false, false, false, false, false, false] rfl rfl (by kernel_rfl) (fun _ _ _ h => h) (Or.inl ⟨by rfl, ?_⟩) ?_ ?_
              rotate_left
              · intro w'
                go_simp
                with_reducible rfl
              rotate_left
              · simp only [Act.put, List.setIfInBounds_toArray, List.set_cons_zero, List.set_cons_succ, i64_w, i32_w]
                rfl
              refine pure_ (i := 4) (N := some 22) (v := ?_) (a' := ?_) #[true, true, true, true, true, false, false, false, false, false, false, false, false, false, false, false, false, false, false, false] rfl rfl (by kernel_rfl) (fun _ _ _ h => h) (Or.inl ⟨by rfl, ?_⟩) ?_ ?_
              rotate_left
              · intro w'
                go_simp
                with_reducible rfl
              rotate_left
              · simp only [Act.put, List.setIfInBounds_toArray, List.set_cons_zero, List.set_cons_succ, i64_w, i32_w]
                rfl
              refine pure_ (i := 5) (N := some 23) (v := ?_) (a' := ?_) #[true, true, true, true, true, true, false, false, false, false, false, false, false, false, false, false, false, false, false, false] rfl rfl (by kernel_rfl) (fun _ _ _ h => h) (Or.inl ⟨by rfl, ?_⟩) ?_ ?_
              rotate_left
              · intro w'
                go_simp
                with_reducible rfl
              rotate_left
              · simp only [Act.put, List.setIfInBounds_toArray, List.set_cons_zero, List.set_cons_succ, i64_w, i32_w]
                rfl
              refine pure_ (i := 6) (N := some 24) (v := ?_) (a' := ?_) #[true, true, true, true, true, true, true, false, false, false, false, false, false, false, false, false, false, false, false, false] rfl rfl (by kernel_rfl) (fun _ _ _ h => h) (Or.inl ⟨by rfl, ?_⟩) ?_ ?_
              rotate_left
              · intro w'
                go_simp
                with_reducible rfl
              rotate_left
              · simp only [Act.put, List.setIfInBounds_toArray, List.set_cons_zero, List.set_cons_succ, i64_w, i32_w]
                rfl
              refine pure_ (i := 7) (N := some 25) (v := ?_) (a' := ?_) #[true, true, true, true, true, true, true, true, false, false, false, false, false, false, false, false, false, false, false, false] rfl rfl (by kernel_rfl) (fun _ _ _ h => h) (Or.inl ⟨by rfl, ?_⟩) ?_ ?_
              rotate_left
              · intro w'
                go_simp
                with_reducible rfl
              rotate_left
              · simp only [Act.put, List.setIfInBounds_toArray, List.set_cons_zero, List.set_cons_succ, i64_w, i32_w]
                rfl
              refine pure_ (i := 8) (N := some 26) (v := ?_) (a' := ?_) #[true, true, true, true, true, true, true, true, true, false, false, false, false, false, false, false, false, false, false, false] rfl rfl (by kernel_rfl) (fun _ _ _ h => h) (Or.inl ⟨by rfl, ?_⟩) ?_ ?_
              rotate_left
              · intro w'
                go_simp
                with_reducible rfl
              rotate_left
              · simp only [Act.put, List.setIfInBounds_toArray, List.set_cons_zero, List.set_cons_succ, i64_w, i32_w]
                rfl
              refine pure_ (i := 9) (N := some 27) (v := ?_) (a' := ?_) #[true, true, true, true, true, true, true, true, true, true, false, false, false, false, false, false, false, false, false, false] rfl rfl (by kernel_rfl) (fun _ _ _ h => h) (Or.inl ⟨by rfl, ?_⟩) ?_ ?_
              rotate_left
              · intro w'
                go_simp
                with_reducible rfl
              rotate_left
              · simp only [Act.put, List.setIfInBounds_toArray, List.set_cons_zero, List.set_cons_succ, i64_w, i32_w]
                rfl
              refine pure_ (i := 11) (N := some 29) (v := ?_) (a' := ?_) #[true, true, true, true, true, true, true, true, true, true, false, true, false, false, false, false, false, false, false, false] rfl rfl (by kernel_rfl) (fun _ _ _ h => h) (Or.inl ⟨by rfl, ?_⟩) ?_ ?_
              rotate_left
              · intro w'
                go_simp
                with_reducible rfl
              rotate_left
              · simp only [Act.put, List.setIfInBounds_toArray, List.set_cons_zero, List.set_cons_succ, i64_w, i32_w]
                rfl
              refine pure_ (i := 12) (N := some 30) (v := ?_) (a' := ?_) #[true, true, true, true, true, true, true, true, true, true, false, true, true, false, false, false, false, false, false, false] rfl rfl (by kernel_rfl) (fun _ _ _ h => h) (Or.inl ⟨by rfl, ?_⟩) ?_ ?_
              rotate_left
              · intro w'
                go_simp
                with_reducible rfl
              rotate_left
              · simp only [Act.put, List.setIfInBounds_toArray, List.set_cons_zero, List.set_cons_succ, i64_w, i32_w]
                rfl
              refine take_ (i := 10) (N := some 28) (v := ?_) (a' := ?_) #[true, true, true, true, true, true, true, true, true, true, true, true, true, false, false, false, false, false, false, false] rfl rfl (by kernel_rfl) (fun _ _ _ h => h) (Or.inl ⟨by rfl, ?_⟩) hHeld ?_ ?_
              rotate_left
              · rintro w' ⟨s0, s1, s2, s3, s4, s5, s6⟩
                go_simp
                with_reducible rfl
              rotate_left
              · simp only [Act.put, List.setIfInBounds_toArray, List.set_cons_zero, List.set_cons_succ, i64_w, i32_w]
                rfl
              refine take_ (i := 13) (N := some 31) (v := ?_) (a' := ?_) #[true, true, true, true, true, true, true, true, true, true, true, true, true, true, false, false, false, false, false, false] rfl rfl (by kernel_rfl) (fun _ _ _ h => h) (Or.inl ⟨by rfl, ?_⟩) hHeld ?_ ?_
              rotate_left
              · rintro w' ⟨s0, s1, s2, s3, s4, s5, s6⟩
                go_simp
                with_reducible rfl
              rotate_left
              · simp only [Act.put, List.setIfInBounds_toArray, List.set_cons_zero, List.set_cons_succ, i64_w, i32_w]
                rfl
              refine pure_ (i := 14) (N := some 32) (v := ?_) (a' := ?_) #[true, true, true, true, true, true, true, true, true, true, true, true, true, true, true, false, false, false, false, false] rfl rfl (by kernel_rfl) (fun _ _ _ h => h) (Or.inl ⟨by rfl, ?_⟩) ?_ ?_
              rotate_left
              · intro w'
                go_simp
                with_reducible rfl
              rotate_left
              · simp only [Act.put, List.setIfInBounds_toArray, List.set_cons_zero, List.set_cons_succ, i64_w, i32_w]
                rfl
              refine take_ (i := 15) (N := some 33) (v := ?_) (a' := ?_) #[true, true, true, true, true, true, true, true, true, true, true, true, true, true, true, true, false, false, false, false] rfl rfl (by kernel_rfl) (fun _ _ _ h => h) (Or.inl ⟨by rfl, ?_⟩) hHeld ?_ ?_
              rotate_left
              · rintro w' ⟨s0, s1, s2, s3, s4, s5, s6⟩
                go_simp
                with_reducible rfl
              rotate_left
              · simp only [Act.put, List.setIfInBounds_toArray, List.set_cons_zero, List.set_cons_succ, i64_w, i32_w]
                rfl
              refine one_ (i := 16) (N := some 34) #[true, true, true, true, true, true, true, true, true, true, true, true, true, true, true, true, true, false, false, false] rfl rfl (by kernel_rfl) (by decide) (fun K hK => ?_)
              refine goesV_ (t := 25) (enters_ Try.func29 (by kernel_rfl) rfl) #[.agg #[.int .i64 x.f0, .int .i64 x.f1, .slice Ax x.f2.length cx], .agg #[.int .i64 y.f0, .int .i64 y.f1, .slice Ay y.f2.length cy]] (by rfl) rfl rfl (by rfl) (by simp only [List.map_toArray, List.map_cons, List.map_nil]; rfl) ?_
              rw [Array.append_empty]
              with_reducible refine (merge3_compareSlots.calls 3 _ _ _ _ _ _ _ _ _ _ _ _ hxr hxc hyr hyc (compareSlots_is x y)).mono ?_
              rintro e w3 ⟨rfl, hbc⟩
              refine ⟨_, rfl, ?_⟩
              refine hK.out _ _ ⟨pw_cell_below hbc (hHeld.1), pw_cell_below hbc (hHeld.2.1), pw_cell_below hbc (hHeld.2.2.1), pw_cell_below hbc (hHeld.2.2.2.1), pw_cell_below hbc (hHeld.2.2.2.2.1), pw_cell_below hbc (hHeld.2.2.2.2.2.1), pw_cell_below hbc (hHeld.2.2.2.2.2.2)⟩ (fun hHeld => ?_)
              clear hK K
              refine norm_ (a' := ?_) ?_ ?_
              rotate_left
              · show Act.put _ (some 34) _ = _
                simp only [Act.put, List.setIfInBounds_toArray, List.set_cons_zero, List.set_cons_succ, i64_w, i32_w]
                rfl
              refine pure_ (i := 17) (N := some 35) (v := ?_) (a' := ?_) #[true, true, true, true, true, true, true, true, true, true, true, true, true, true, true, true, true, true, false, false] rfl rfl (by kernel_rfl) (fun _ _ _ h => h) (Or.inl ⟨by rfl, ?_⟩) ?_ ?_
              rotate_left
              · intro w'
                go_simp
                with_reducible rfl
              rotate_left
              · simp only [Act.put, List.setIfInBounds_toArray, List.set_cons_zero, List.set_cons_succ, i64_w, i32_w]
                rfl
              refine pure_ (i := 18) (N := some 36) (v := ?_) (a' := ?_) #[true, true, true, true, true, true, true, true, true, true, true, true, true, true, true, true, true, true, true, false] rfl rfl (by kernel_rfl) (fun _ _ _ h => h) (Or.inl ⟨by rfl, ?_⟩) ?_ ?_
              rotate_left
              · intro w'
                go_simp
                with_reducible rfl
              rotate_left
              · simp only [Act.put, List.setIfInBounds_toArray, List.set_cons_zero, List.set_cons_succ, i64_w, i32_w]
                rfl
              refine pure_ (i := 19) (N := some 37) (v := ?_) (a' := ?_) #[true, true, true, true, true, true, true, true, true, true, true, true, true, true, true, true, true, true, true, true] rfl rfl (by kernel_rfl) (fun _ _ _ h => h) (Or.inl ⟨by rfl, ?_⟩) ?_ ?_
              rotate_left
              · intro w'
                go_simp
                with_reducible rfl
              rotate_left
              · simp only [Act.put, List.setIfInBounds_toArray, List.set_cons_zero, List.set_cons_succ, i64_w, i32_w]
                rfl
              refine done_ (by kernel_rfl) ?_
              go_wp2_with fail
              go_roundg (3 - k)
              case measure => have := HQ.out; omega
              case rel => exact ⟨k + 1, by go_num, by omega, ⟨by have := HQ.out; omega⟩, by rw [minUpTo_less HLk.out HM1.out HC.out]; rfl, ⟨below_step (below_drew HB2.out) hbc⟩⟩
            · have hcb : decide (cmpS x y < 0) = false := decide_eq_false hc
              have HC := Aside0.mk hc
              clear hc
              have hxr := Kd.C_drew hF.2.2.2.2
              have hxc := hF.2.2.2.1
              have hyr := Kd.C_drew hFj.2.2.2.2
              have hyc := hFj.2.2.2.1
              refine start_ (n := 20) (S := fun w' => w'.cell? ad = some (.int .i64 x.f0) ∧ w'.cell? ⟨ad.block, ad.off + 1, none⟩ = some (.int .i64 x.f1) ∧ w'.cell? ⟨ad.block, ad.off + 2, none⟩ = some (.slice Ax x.f2.length cx) ∧ w'.cell? ⟨w.heap.size, j, none⟩ = some (.slice (some adj) (t'.length + 1) (c j)) ∧ w'.cell? adj = some (.int .i64 y.f0) ∧ w'.cell? ⟨adj.block, adj.off + 1, none⟩ = some (.int .i64 y.f1) ∧ w'.cell? ⟨adj.block, adj.off + 2, none⟩ = some (.slice Ay y.f2.length cy)) (ds := []) #[false, false, false, false, false, false, false, false, false, false, false, false, false, false, false, false, false, false, false, false] (by kernel_rfl) rfl rfl ⟨hF.1, hF.2.1, hF.2.2.1, hbj, hFj.1, hFj.2.1, hFj.2.2.1⟩ (fun hHeld => ?_)
              refine pure_ (i := 0) (N := some 18) (v := ?_) (a' := ?_) #[true, false, false, false, false, false, false, false, false, false, false, false, false, false, false, false, false, false, false, false] rfl rfl (by kernel_rfl) (fun _ _ _ h => h) (Or.inl ⟨by rfl, ?_⟩) ?_ ?_
              rotate_left
              · intro w'
                go_simp
                with_reducible rfl
              rotate_left
              · simp only [Act.put, List.setIfInBounds_toArray, List.set_cons_zero, List.set_cons_succ, i64_w, i32_w]
                rfl
              refine pure_ (i := 1) (N := some 19) (v := ?_) (a' := ?_) #[true, true, false, false, false, false, false, false, false, false, false, false, false, false, false, false, false, false, false, false] rfl rfl (by kernel_rfl) (fun _ _ _ h => h) (Or.inl ⟨by rfl, ?_⟩) ?_ ?_
              rotate_left
              · intro w'
                go_simp
                with_reducible rfl
              rotate_left
              · simp only [Act.put, List.setIfInBounds_toArray, List.set_cons_zero, List.set_cons_succ, i64_w, i32_w]
                rfl
              refine pure_ (i := 2) (N := some 20) (v := ?_) (a' := ?_) #[true, true, true, false, false, false, false, false, false, false, false, false, false, false, false, false, false, false, false, false] rfl rfl (by kernel_rfl) (fun _ _ _ h => h) (Or.inl ⟨by rfl, ?_⟩) ?_ ?_
              rotate_left
              · intro w'
                go_simp
                with_reducible rfl
              rotate_left
              · simp only [Act.put, List.setIfInBounds_toArray, List.set_cons_zero, List.set_cons_succ, i64_w, i32_w]
                rfl
              refine pure_ (i := 3) (N := some 21) (v := ?_) (a' := ?_) #[true, true, true, true, false, false, false, false, false, false, false, false, false, false, false, false, false, false, false, false] rfl rfl (by kernel_rfl) (fun _ _ _ h => h) (Or.inl ⟨by rfl, ?_⟩) ?_ ?_
              rotate_left
              · intro w'
                go_simp
                with_reducible rfl
              rotate_left
              · simp only [Act.put, List.setIfInBounds_toArray, List.set_cons_zero, List.set_cons_succ, i64_w, i32_w]
                rfl
              refine pure_ (i := 4) (N := some 22) (v := ?_) (a' := ?_) #[true, true, true, true, true, false, false, false, false, false, false, false, false, false, false, false, false, false, false, false] rfl rfl (by kernel_rfl) (fun _ _ _ h => h) (Or.inl ⟨by rfl, ?_⟩) ?_ ?_
              rotate_left
              · intro w'
                go_simp
                with_reducible rfl
              rotate_left
              · simp only [Act.put, List.setIfInBounds_toArray, List.set_cons_zero, List.set_cons_succ, i64_w, i32_w]
                rfl
              refine pure_ (i := 5) (N := some 23) (v := ?_) (a' := ?_) #[true, true, true, true, true, true, false, false, false, false, false, false, false, false, false, false, false, false, false, false] rfl rfl (by kernel_rfl) (fun _ _ _ h => h) (Or.inl ⟨by rfl, ?_⟩) ?_ ?_
              rotate_left
              · intro w'
                go_simp
                with_reducible rfl
              rotate_left
              · simp only [Act.put, List.setIfInBounds_toArray, List.set_cons_zero, List.set_cons_succ, i64_w, i32_w]
                rfl
              refine pure_ (i := 6) (N := some 24) (v := ?_) (a' := ?_) #[true, true, true, true, true, true, true, false, false, false, false, false, false, false, false, false, false, false, false, false] rfl rfl (by kernel_rfl) (fun _ _ _ h => h) (Or.inl ⟨by rfl, ?_⟩) ?_ ?_
              rotate_left
              · intro w'
                go_simp
                with_reducible rfl
              rotate_left
              · simp only [Act.put, List.setIfInBounds_toArray, List.set_cons_zero, List.set_cons_succ, i64_w, i32_w]
                rfl
              refine pure_ (i := 7) (N := some 25) (v := ?_) (a' := ?_) #[true, true, true, true, true, true, true, true, false, false, false, false, false, false, false, false, false, false, false, false] rfl rfl (by kernel_rfl) (fun _ _ _ h => h) (Or.inl ⟨by rfl, ?_⟩) ?_ ?_
              rotate_left
              · intro w'
                go_simp
                with_reducible rfl
              rotate_left
              · simp only [Act.put, List.setIfInBounds_toArray, List.set_cons_zero, List.set_cons_succ, i64_w, i32_w]
                rfl
              refine pure_ (i := 8) (N := some 26) (v := ?_) (a' := ?_) #[true, true, true, true, true, true, true, true, true, false, false, false, false, false, false, false, false, false, false, false] rfl rfl (by kernel_rfl) (fun _ _ _ h => h) (Or.inl ⟨by rfl, ?_⟩) ?_ ?_
              rotate_left
              · intro w'
                go_simp
                with_reducible rfl
              rotate_left
              · simp only [Act.put, List.setIfInBounds_toArray, List.set_cons_zero, List.set_cons_succ, i64_w, i32_w]
                rfl
              refine pure_ (i := 9) (N := some 27) (v := ?_) (a' := ?_) #[true, true, true, true, true, true, true, true, true, true, false, false, false, false, false, false, false, false, false, false] rfl rfl (by kernel_rfl) (fun _ _ _ h => h) (Or.inl ⟨by rfl, ?_⟩) ?_ ?_
              rotate_left
              · intro w'
                go_simp
                with_reducible rfl
              rotate_left
              · simp only [Act.put, List.setIfInBounds_toArray, List.set_cons_zero, List.set_cons_succ, i64_w, i32_w]
                rfl
              refine pure_ (i := 11) (N := some 29) (v := ?_) (a' := ?_) #[true, true, true, true, true, true, true, true, true, true, false, true, false, false, false, false, false, false, false, false] rfl rfl (by kernel_rfl) (fun _ _ _ h => h) (Or.inl ⟨by rfl, ?_⟩) ?_ ?_
              rotate_left
              · intro w'
                go_simp
                with_reducible rfl
              rotate_left
              · simp only [Act.put, List.setIfInBounds_toArray, List.set_cons_zero, List.set_cons_succ, i64_w, i32_w]
                rfl
              refine pure_ (i := 12) (N := some 30) (v := ?_) (a' := ?_) #[true, true, true, true, true, true, true, true, true, true, false, true, true, false, false, false, false, false, false, false] rfl rfl (by kernel_rfl) (fun _ _ _ h => h) (Or.inl ⟨by rfl, ?_⟩) ?_ ?_
              rotate_left
              · intro w'
                go_simp
                with_reducible rfl
              rotate_left
              · simp only [Act.put, List.setIfInBounds_toArray, List.set_cons_zero, List.set_cons_succ, i64_w, i32_w]
                rfl
              refine take_ (i := 10) (N := some 28) (v := ?_) (a' := ?_) #[true, true, true, true, true, true, true, true, true, true, true, true, true, false, false, false, false, false, false, false] rfl rfl (by kernel_rfl) (fun _ _ _ h => h) (Or.inl ⟨by rfl, ?_⟩) hHeld ?_ ?_
              rotate_left
              · rintro w' ⟨s0, s1, s2, s3, s4, s5, s6⟩
                go_simp
                with_reducible rfl
              rotate_left
              · simp only [Act.put, List.setIfInBounds_toArray, List.set_cons_zero, List.set_cons_succ, i64_w, i32_w]
                rfl
              refine take_ (i := 13) (N := some 31) (v := ?_) (a' := ?_) #[true, true, true, true, true, true, true, true, true, true, true, true, true, true, false, false, false, false, false, false] rfl rfl (by kernel_rfl) (fun _ _ _ h => h) (Or.inl ⟨by rfl, ?_⟩) hHeld ?_ ?_
              rotate_left
              · rintro w' ⟨s0, s1, s2, s3, s4, s5, s6⟩
                go_simp
                with_reducible rfl
              rotate_left
              · simp only [Act.put, List.setIfInBounds_toArray, List.set_cons_zero, List.set_cons_succ, i64_w, i32_w]
                rfl
              refine pure_ (i := 14) (N := some 32) (v := ?_) (a' := ?_) #[true, true, true, true, true, true, true, true, true, true, true, true, true, true, true, false, false, false, false, false] rfl rfl (by kernel_rfl) (fun _ _ _ h => h) (Or.inl ⟨by rfl, ?_⟩) ?_ ?_
              rotate_left
              · intro w'
                go_simp
                with_reducible rfl
              rotate_left
              · simp only [Act.put, List.setIfInBounds_toArray, List.set_cons_zero, List.set_cons_succ, i64_w, i32_w]
                rfl
              refine take_ (i := 15) (N := some 33) (v := ?_) (a' := ?_) #[true, true, true, true, true, true, true, true, true, true, true, true, true, true, true, true, false, false, false, false] rfl rfl (by kernel_rfl) (fun _ _ _ h => h) (Or.inl ⟨by rfl, ?_⟩) hHeld ?_ ?_
              rotate_left
              · rintro w' ⟨s0, s1, s2, s3, s4, s5, s6⟩
                go_simp
                with_reducible rfl
              rotate_left
              · simp only [Act.put, List.setIfInBounds_toArray, List.set_cons_zero, List.set_cons_succ, i64_w, i32_w]
                rfl
              refine one_ (i := 16) (N := some 34) #[true, true, true, true, true, true, true, true, true, true, true, true, true, true, true, true, true, false, false, false] rfl rfl (by kernel_rfl) (by decide) (fun K hK => ?_)
              refine goesV_ (t := 25) (enters_ Try.func29 (by kernel_rfl) rfl) #[.agg #[.int .i64 x.f0, .int .i64 x.f1, .slice Ax x.f2.length cx], .agg #[.int .i64 y.f0, .int .i64 y.f1, .slice Ay y.f2.length cy]] (by rfl) rfl rfl (by rfl) (by simp only [List.map_toArray, List.map_cons, List.map_nil]; rfl) ?_
              rw [Array.append_empty]
              with_reducible refine (merge3_compareSlots.calls 3 _ _ _ _ _ _ _ _ _ _ _ _ hxr hxc hyr hyc (compareSlots_is x y)).mono ?_
              rintro e w3 ⟨rfl, hbc⟩
              refine ⟨_, rfl, ?_⟩
              refine hK.out _ _ ⟨pw_cell_below hbc (hHeld.1), pw_cell_below hbc (hHeld.2.1), pw_cell_below hbc (hHeld.2.2.1), pw_cell_below hbc (hHeld.2.2.2.1), pw_cell_below hbc (hHeld.2.2.2.2.1), pw_cell_below hbc (hHeld.2.2.2.2.2.1), pw_cell_below hbc (hHeld.2.2.2.2.2.2)⟩ (fun hHeld => ?_)
              clear hK K
              refine norm_ (a' := ?_) ?_ ?_
              rotate_left
              · show Act.put _ (some 34) _ = _
                simp only [Act.put, List.setIfInBounds_toArray, List.set_cons_zero, List.set_cons_succ, i64_w, i32_w]
                rfl
              refine pure_ (i := 17) (N := some 35) (v := ?_) (a' := ?_) #[true, true, true, true, true, true, true, true, true, true, true, true, true, true, true, true, true, true, false, false] rfl rfl (by kernel_rfl) (fun _ _ _ h => h) (Or.inl ⟨by rfl, ?_⟩) ?_ ?_
              rotate_left
              · intro w'
                go_simp
                with_reducible rfl
              rotate_left
              · simp only [Act.put, List.setIfInBounds_toArray, List.set_cons_zero, List.set_cons_succ, i64_w, i32_w]
                rfl
              refine pure_ (i := 18) (N := some 36) (v := ?_) (a' := ?_) #[true, true, true, true, true, true, true, true, true, true, true, true, true, true, true, true, true, true, true, false] rfl rfl (by kernel_rfl) (fun _ _ _ h => h) (Or.inl ⟨by rfl, ?_⟩) ?_ ?_
              rotate_left
              · intro w'
                go_simp
                with_reducible rfl
              rotate_left
              · simp only [Act.put, List.setIfInBounds_toArray, List.set_cons_zero, List.set_cons_succ, i64_w, i32_w]
                rfl
              refine pure_ (i := 19) (N := some 37) (v := ?_) (a' := ?_) #[true, true, true, true, true, true, true, true, true, true, true, true, true, true, true, true, true, true, true, true] rfl rfl (by kernel_rfl) (fun _ _ _ h => h) (Or.inl ⟨by rfl, ?_⟩) ?_ ?_
              rotate_left
              · intro w'
                go_simp
                with_reducible rfl
              rotate_left
              · simp only [Act.put, List.setIfInBounds_toArray, List.set_cons_zero, List.set_cons_succ, i64_w, i32_w]
                rfl
              refine done_ (by kernel_rfl) ?_
              go_wp2_with fail
              go_roundg (3 - k)
              case measure => have := HQ.out; omega
              case rel => exact ⟨k + 1, by go_num, by omega, ⟨by have := HQ.out; omega⟩, by rw [minUpTo_stay HLk.out HM1.out (by have := HC.out; omega)]; rfl, ⟨below_step (below_drew HB2.out) hbc⟩⟩
      · obtain rfl : k = 3 := by omega
        have HBb := below_then ST.out.bel (Nat.le_trans ST.out.le0 ST.out.kept.1) HB2.out
        have HLB := blk_lt (blk_below ST.out.blk HB2.out)
        rcases opt_cases (minUpTo cmpS L 3) with hm | ⟨j, y, hm⟩
        · rw [hm]
          rw [show liOf (none : Option (Nat × S53)) = -1 from rfl]
          go_wp2_with fail
          refine bodyPost_ret (v := .tuple #[]) (by simp [results, Try.results28, go_sem]) rfl ⟨rfl, ⟨fun k => ok k ∧ k < wo.heap.size, ?_⟩, HBb, Kept.below ST.out.kept HB2.out⟩
          rw [← HD.out, rowsOf_none hm, List.append_nil]
          exact HM.out _ _ _ _ HI.out (fun k _ hlt => HB2.out.block k hlt)
        · rw [hm]
          rw [show liOf (some (j, y)) = (j : Int) from rfl]
          obtain ⟨hj3, t', hLj⟩ := minUpTo_some hm
          have HM1 := Aside0.mk hm
          clear hm
          have hrj := ST.out.rd j (by omega)
          have hln : (L j).length = t'.length + 1 := by rw [hLj]; rfl
          have hcell : ∃ Aj : Addr, A j = some Aj ∧ wr.cell? ⟨w.heap.size, j, none⟩ = some (.slice (some Aj) (t'.length + 1) (c j)) ∧ ∃ Ay cy, Three w0 Aj y Ay cy := by
            rw [hLj] at hrj
            obtain ⟨adj, Ay, cy, eAj, hFj⟩ := headSlot hrj (Below.refl _ _)
            refine ⟨adj, eAj, ?_, Ay, cy, hFj⟩
            rw [blk_cell (blk_below ST.out.blk HB2.out) j, ← eAj, ← hln]
            rcases (by omega : j = 0 ∨ j = 1 ∨ j = 2) with rfl | rfl | rfl <;> rfl
          clear hrj hln hLj
          obtain ⟨adj, eAj, hbj, Ay, cy, hFj⟩ := hcell
          clear eAj
          have hFj0 := hFj
          replace hFj := three_below hFj HBb
          have hjz : (j : Int) < 3 := by omega
          have hj0 : decide ((j : Int) < 0) = false := decide_eq_false (by omega)
          have HBB := Aside0.mk HBb
          obtain ⟨wp, rfl⟩ : ∃ wp : World, wp = wr := ⟨_, rfl⟩
          have bk0 : ∀ o1 o2 : Obj, ((wp.alloc o1).alloc o2).cell? ⟨w.heap.size, 0, none⟩ = some (.slice (A 0) (L 0).length (c 0)) := fun o1 o2 => pw_cell_below (below_alloc (below_alloc (Below.refl _ _) _) _) ((blk_cell (blk_below ST.out.blk HB2.out) 0).trans rfl)
          have bk1 : ∀ o1 o2 : Obj, ((wp.alloc o1).alloc o2).cell? ⟨w.heap.size, 1, none⟩ = some (.slice (A 1) (L 1).length (c 1)) := fun o1 o2 => pw_cell_below (below_alloc (below_alloc (Below.refl _ _) _) _) ((blk_cell (blk_below ST.out.blk HB2.out) 1).trans rfl)
          have bk2 : ∀ o1 o2 : Obj, ((wp.alloc o1).alloc o2).cell? ⟨w.heap.size, 2, none⟩ = some (.slice (A 2) (L 2).length (c 2)) := fun o1 o2 => pw_cell_below (below_alloc (below_alloc (Below.refl _ _) _) _) ((blk_cell (blk_below ST.out.blk HB2.out) 2).trans rfl)
          obtain ⟨hf0, hf1, hf2, hf3, hf4⟩ := hFj
          have HF3 := Aside0.mk hf3
          have HF4 := Aside0.mk hFj0.2.2.2.2
          clear hf3 hf4
          have HLBp := Aside0.mk HLB
          clear HBb HLB
          go_wp2_with fail
          go_loopg [48] 4 (fun kq v48 w3 => ∃ (k : Nat) (p A' : Nat → Option Addr) (c' : Nat → Nat), v48 = .int .i64 k ∧ k ≤ 3 ∧ Aside0 (kq + k = 4) ∧ Aside0 (w3.heap[wp.heap.size]? = some (.cells #[.int .i64 y.f0, .int .i64 y.f1, .slice Ay y.f2.length cy] 53 (0, 0))) ∧ Aside0 (MidSlot w0 wp w3 w.heap.size (wp.heap.size + 1) y k L A c p A' c'))
          case atStart => exact ⟨0, fun _ => none, A, c, rfl, by omega, ⟨rfl⟩, ⟨blk_alloc (blk_new _ _) _⟩, ⟨midSlot_start ST.out HB2.out _⟩⟩
          case round =>
            clear bk0 bk1 bk2
            obtain ⟨k, p, A', c', rfl, hk3, HQ3, HFB, MD⟩ := hrel
            rcases Nat.lt_or_ge k 3 with hk | hk
            · have hk0 : (k : Int) < 3 := by omega
              have hix := ix55 (.slice (A 0) (L 0).length (c 0)) (.slice (A 1) (L 1).length (c 1)) (.slice (A 2) (L 2).length (c 2)) k hk (fun i => .slice (A i) (L i).length (c i)) rfl rfl rfl
              go_wp2_with fail
              clear hix
              rcases list_cases (L k) with hLk | ⟨x, t, hLk⟩
              · rw [show (L k).length = 0 by rw [hLk]; rfl]
                have MD2 := Aside0.mk (midSlot_same hk (midSlot_below MD.out (below_drew (Below.refl _ _)) (Nat.le_trans ST.out.le0 (Nat.le_trans (Nat.le_trans ST.out.kept.1 HB2.out.size) MD.out.kept.1))) (by rw [hLk]; rfl) (by rw [hLk]; rfl) (ST.out.rd k hk) (ST.out.cap k hk))
                have HFB2 := Aside0.mk (blk_drew HFB.out)
                clear hLk
                refine start_ (n := 12) (S := fun w' => True) (ds := []) #[false, false, false, false, false, false, false, false, false, false, false, false] (by kernel_rfl) rfl rfl trivial (fun hHeld => ?_)
                refine pure_ (i := 0) (N := some 52) (v := ?_) (a' := ?_) #[true, false, false, false, false, false, false, false, false, false, false, false] rfl rfl (by kernel_rfl) (fun _ _ _ h => h) (Or.inl ⟨by rfl, ?_⟩) ?_ ?_
                rotate_left
                · intro w'
                  go_simp
                  with_reducible rfl
                rotate_left
                · simp only [Act.put, List.setIfInBounds_toArray, List.set_cons_zero, List.set_cons_succ, i64_w, i32_w]
                  rfl
                refine pure_ (i := 1) (N := some 53) (v := ?_) (a' := ?_) #[true, true, false, false, false, false, false, false, false, false, false, false] rfl rfl (by kernel_rfl) (fun _ _ _ h => h) (Or.inl ⟨by rfl, ?_⟩) ?_ ?_
                rotate_left
                · intro w'
                  go_simp
                  with_reducible rfl
                rotate_left
                · simp only [Act.put, List.setIfInBounds_toArray, List.set_cons_zero, List.set_cons_succ, i64_w, i32_w]
                  rfl
                refine pure_ (i := 2) (N := some 54) (v := ?_) (a' := ?_) #[true, true, true, false, false, false, false, false, false, false, false, false] rfl rfl (by kernel_rfl) (fun _ _ _ h => h) (Or.inl ⟨by rfl, ?_⟩) ?_ ?_
                rotate_left
                · intro w'
                  go_simp
                  with_reducible rfl
                rotate_left
                · simp only [Act.put, List.setIfInBounds_toArray, List.set_cons_zero, List.set_cons_succ, i64_w, i32_w]
                  rfl
                refine pure_ (i := 3) (N := some 55) (v := ?_) (a' := ?_) #[true, true, true, true, false, false, false, false, false, false, false, false] rfl rfl (by kernel_rfl) (fun _ _ _ h => h) (Or.inl ⟨by rfl, ?_⟩) ?_ ?_
                rotate_left
                · intro w'
                  go_simp
                  with_reducible rfl
                rotate_left
                · simp only [Act.put, List.setIfInBounds_toArray, List.set_cons_zero, List.set_cons_succ, i64_w, i32_w]
                  rfl
                refine pure_ (i := 4) (N := some 56) (v := undef) (a' := ?_) #[true, true, true, true, true, false, false, false, false, false, false, false] rfl rfl (by kernel_rfl) (fun _ _ _ h => h) (Or.inr ⟨by rfl, rfl⟩) ?_ ?_
                rotate_left
                · simp only [Act.put, List.setIfInBounds_toArray, List.set_cons_zero, List.set_cons_succ, i64_w, i32_w]
                  rfl
                refine pure_ (i := 5) (N := some 57) (v := undef) (a' := ?_) #[true, true, true, true, true, true, false, false, false, false, false, false] rfl rfl (by kernel_rfl) (fun _ _ _ h => h) (Or.inr ⟨by rfl, rfl⟩) ?_ ?_
                rotate_left
                · simp only [Act.put, List.setIfInBounds_toArray, List.set_cons_zero, List.set_cons_succ, i64_w, i32_w]
                  rfl
                refine pure_ (i := 6) (N := some 58) (v := undef) (a' := ?_) #[true, true, true, true, true, true, true, false, false, false, false, false] rfl rfl (by kernel_rfl) (fun _ _ _ h => h) (Or.inr ⟨by rfl, rfl⟩) ?_ ?_
                rotate_left
                · simp only [Act.put, List.setIfInBounds_toArray, List.set_cons_zero, List.set_cons_succ, i64_w, i32_w]
                  rfl
                refine pure_ (i := 7) (N := some 59) (v := undef) (a' := ?_) #[true, true, true, true, true, true, true, true, false, false, false, false] rfl rfl (by kernel_rfl) (fun _ _ _ h => h) (Or.inr ⟨by rfl, rfl⟩) ?_ ?_
                rotate_left
                · simp only [Act.put, List.setIfInBounds_toArray, List.set_cons_zero, List.set_cons_succ, i64_w, i32_w]
                  rfl
                refine pure_ (i := 8) (N := some 60) (v := undef) (a' := ?_) #[true, true, true, true, true, true, true, true, true, false, false, false] rfl rfl (by kernel_rfl) (fun _ _ _ h => h) (Or.inr ⟨by rfl, rfl⟩) ?_ ?_
                rotate_left
                · simp only [Act.put, List.setIfInBounds_toArray, List.set_cons_zero, List.set_cons_succ, i64_w, i32_w]
                  rfl
                refine pure_ (i := 9) (N := some 61) (v := undef) (a' := ?_) #[true, true, true, true, true, true, true, true, true, true, false, false] rfl rfl (by kernel_rfl) (fun _ _ _ h => h) (Or.inr ⟨by rfl, rfl⟩) ?_ ?_
                rotate_left
                · simp only [Act.put, List.setIfInBounds_toArray, List.set_cons_zero, List.set_cons_succ, i64_w, i32_w]
                  rfl
                refine pure_ (i := 10) (N := some 62) (v := undef) (a' := ?_) #[true, true, true, true, true, true, true, true, true, true, true, false] rfl rfl (by kernel_rfl) (fun _ _ _ h => h) (Or.inr ⟨by rfl, rfl⟩) ?_ ?_
                rotate_left
                · simp only [Act.put, List.setIfInBounds_toArray, List.set_cons_zero, List.set_cons_succ, i64_w, i32_w]
                  rfl
                refine pure_ (i := 11) (N := some 63) (v := ?_) (a' := ?_) #[true, true, true, true, true, true, true, true, true, true, true, true] rfl rfl (by kernel_rfl) (fun _ _ _ h => h) (Or.inl ⟨by rfl, ?_⟩) ?_ ?_
                rotate_left
                · intro w'
                  go_simp
                  with_reducible rfl
                rotate_left
                · simp only [Act.put, List.setIfInBounds_toArray, List.set_cons_zero, List.set_cons_succ, i64_w, i32_w]
                  rfl
                refine done_ (by kernel_rfl) ?_
                go_wp2_with fail
                go_roundg (3 - k)
                case measure => have := HQ3.out; omega
                case rel => exact ⟨k + 1, p, A', c', by go_num, by omega, ⟨by have := HQ3.out; omega⟩, HFB2, MD2⟩
              · rw [show (L k).length = t.length + 1 by rw [hLk]; rfl]
                have hrk := ST.out.rd k hk
                rw [hLk] at hrk
                have hF0 : ∃ ad0, A k = some ad0 ∧ Slot? w0 (some ad0) (some x) := by
                  obtain ⟨ad, Ax, cx, eA, hF⟩ := headSlot hrk (Below.refl _ _)
                  exact ⟨ad, eA, .inr ⟨ad, x, Ax, cx, rfl, rfl, hF⟩⟩
                obtain ⟨ad, Ax, cx, eA, hF⟩ := headSlot hrk MD.out.bel
                obtain ⟨ad0, eA0, hF0⟩ := hF0
                obtain rfl : ad = ad0 := by rw [eA] at eA0; injection eA0
                clear eA0
                have hf0 : wr.cell? ⟨wp.heap.size, 0, none⟩ = some (.int .i64 y.f0) := (blk_cell HFB.out 0).trans rfl
                have hf1 : wr.cell? ⟨wp.heap.size, 1, none⟩ = some (.int .i64 y.f1) := (blk_cell HFB.out 1).trans rfl
                have hf2 : wr.cell? ⟨wp.heap.size, 2, none⟩ = some (.slice Ay y.f2.length cy) := (blk_cell HFB.out 2).trans rfl
                skip
                rw [eA]
                have HA := Aside0.mk eA
                have HLk := Aside0.mk hLk
                clear eA hLk hrk
                by_cases hc : cmpS x y = 0
                · have hcb : (cmpS x y == 0) = true := beq_iff_eq.mpr hc
                  have HC := Aside0.mk hc
                  clear hc
                  have hxr := Kd.C_drew hF.2.2.2.2
                  have hxc := hF.2.2.2.1
                  have hyr := Kd.C_drew (Kd.C_below HF4.out MD.out.bel)
                  refine start_ (n := 12) (S := fun w' => w'.cell? ad = some (.int .i64 x.f0) ∧ w'.cell? ⟨ad.block, ad.off + 1, none⟩ = some (.int .i64 x.f1) ∧ w'.cell? ⟨ad.block, ad.off + 2, none⟩ = some (.slice Ax x.f2.length cx) ∧ w'.cell? ⟨wp.heap.size, 0, none⟩ = some (.int .i64 y.f0) ∧ w'.cell? ⟨wp.heap.size, 1, none⟩ = some (.int .i64 y.f1) ∧ w'.cell? ⟨wp.heap.size, 2, none⟩ = some (.slice Ay y.f2.length cy)) (ds := []) #[false, false, false, false, false, false, false, false, false, false, false, false] (by kernel_rfl) rfl rfl ⟨hF.1, hF.2.1, hF.2.2.1, hf0, hf1, hf2⟩ (fun hHeld => ?_)
                  refine pure_ (i := 0) (N := some 52) (v := ?_) (a' := ?_) #[true, false, false, false, false, false, false, false, false, false, false, false] rfl rfl (by kernel_rfl) (fun _ _ _ h => h) (Or.inl ⟨by rfl, ?_⟩) ?_ ?_
                  rotate_left
                  · intro w'
                    go_simp
                    with_reducible rfl
                  rotate_left
                  · simp only [Act.put, List.setIfInBounds_toArray, List.set_cons_zero, List.set_cons_succ, i64_w, i32_w]
                    rfl
                  refine pure_ (i := 1) (N := some 53) (v := ?_) (a' := ?_) #[true, true, false, false, false, false, false, false, false, false, false, false] rfl rfl (by kernel_rfl) (fun _ _ _ h => h) (Or.inl ⟨by rfl, ?_⟩) ?_ ?_
                  rotate_left
                  · intro w'
                    go_simp
                    with_reducible rfl
                  rotate_left
                  · simp only [Act.put, List.setIfInBounds_toArray, List.set_cons_zero, List.set_cons_succ, i64_w, i32_w]
                    rfl
                  refine pure_ (i := 2) (N := some 54) (v := ?_) (a' := ?_) #[true, true, true, false, false, false, false, false, false, false, false, false] rfl rfl (by kernel_rfl) (fun _ _ _ h => h) (Or.inl ⟨by rfl, ?_⟩) ?_ ?_
                  rotate_left
                  · intro w'
                    go_simp
                    with_reducible rfl
                  rotate_left
                  · simp only [Act.put, List.setIfInBounds_toArray, List.set_cons_zero, List.set_cons_succ, i64_w, i32_w]
                    rfl
                  refine pure_ (i := 3) (N := some 55) (v := ?_) (a' := ?_) #[true, true, true, true, false, false, false, false, false, false, false, false] rfl rfl (by kernel_rfl) (fun _ _ _ h => h) (Or.inl ⟨by rfl, ?_⟩) ?_ ?_
                  rotate_left
                  · intro w'
                    go_simp
                    with_reducible rfl
                  rotate_left
                  · simp only [Act.put, List.setIfInBounds_toArray, List.set_cons_zero, List.set_cons_succ, i64_w, i32_w]
                    rfl
                  refine pure_ (i := 4) (N := some 56) (v := ?_) (a' := ?_) #[true, true, true, true, true, false, false, false, false, false, false, false] rfl rfl (by kernel_rfl) (fun _ _ _ h => h) (Or.inl ⟨by rfl, ?_⟩) ?_ ?_
                  rotate_left
                  · intro w'
                    go_simp
                    with_reducible rfl
                  rotate_left
                  · simp only [Act.put, List.setIfInBounds_toArray, List.set_cons_zero, List.set_cons_succ, i64_w, i32_w]
                    rfl
                  refine pure_ (i := 5) (N := some 57) (v := ?_) (a' := ?_) #[true, true, true, true, true, true, false, false, false, false, false, false] rfl rfl (by kernel_rfl) (fun _ _ _ h => h) (Or.inl ⟨by rfl, ?_⟩) ?_ ?_
                  rotate_left
                  · intro w'
                    go_simp
                    with_reducible rfl
                  rotate_left
                  · simp only [Act.put, List.setIfInBounds_toArray, List.set_cons_zero, List.set_cons_succ, i64_w, i32_w]
                    rfl
                  refine pure_ (i := 6) (N := some 58) (v := ?_) (a' := ?_) #[true, true, true, true, true, true, true, false, false, false, false, false] rfl rfl (by kernel_rfl) (fun _ _ _ h => h) (Or.inl ⟨by rfl, ?_⟩) ?_ ?_
                  rotate_left
                  · intro w'
                    go_simp
                    with_reducible rfl
                  rotate_left
                  · simp only [Act.put, List.setIfInBounds_toArray, List.set_cons_zero, List.set_cons_succ, i64_w, i32_w]
                    rfl
                  refine take_ (i := 7) (N := some 59) (v := ?_) (a' := ?_) #[true, true, true, true, true, true, true, true, false, false, false, false] rfl rfl (by kernel_rfl) (fun _ _ _ h => h) (Or.inl ⟨by rfl, ?_⟩) hHeld ?_ ?_
                  rotate_left
                  · rintro w' ⟨s0, s1, s2, s3, s4, s5⟩
                    go_simp
                    with_reducible rfl
                  rotate_left
                  · simp only [Act.put, List.setIfInBounds_toArray, List.set_cons_zero, List.set_cons_succ, i64_w, i32_w]
                    rfl
                  refine take_ (i := 8) (N := some 60) (v := ?_) (a' := ?_) #[true, true, true, true, true, true, true, true, true, false, false, false] rfl rfl (by kernel_rfl) (fun _ _ _ h => h) (Or.inl ⟨by rfl, ?_⟩) hHeld ?_ ?_
                  rotate_left
                  · rintro w' ⟨s0, s1, s2, s3, s4, s5⟩
                    go_simp
                    with_reducible rfl
                  rotate_left
                  · simp only [Act.put, List.setIfInBounds_toArray, List.set_cons_zero, List.set_cons_succ, i64_w, i32_w]
                    rfl
                  refine one_ (i := 9) (N := some 61) #[true, true, true, true, true, true, true, true, true, true, false, false] rfl rfl (by kernel_rfl) (by decide) (fun K hK => ?_)
                  refine goesV_ (t := 56) (enters_ Try.func29 (by kernel_rfl) rfl) #[.agg #[.int .i64 x.f0, .int .i64 x.f1, .slice Ax x.f2.length cx], .agg #[.int .i64 y.f0, .int .i64 y.f1, .slice Ay y.f2.length cy]] (by rfl) rfl rfl (by rfl) (by simp only [List.map_toArray, List.map_cons, List.map_nil]; rfl) ?_
                  rw [Array.append_empty]
                  with_reducible refine (merge3_compareSlots.calls 3 _ _ _ _ _ _ _ _ _ _ _ _ hxr hxc hyr HF3.out (compareSlots_is x y)).mono ?_
                  rintro e w3 ⟨rfl, hbc⟩
                  refine ⟨_, rfl, ?_⟩
                  refine hK.out _ _ ⟨pw_cell_below hbc (hHeld.1), pw_cell_below hbc (hHeld.2.1), pw_cell_below hbc (hHeld.2.2.1), pw_cell_below hbc (hHeld.2.2.2.1), pw_cell_below hbc (hHeld.2.2.2.2.1), pw_cell_below hbc (hHeld.2.2.2.2.2)⟩ (fun hHeld => ?_)
                  clear hK K
                  refine norm_ (a' := ?_) ?_ ?_
                  rotate_left
                  · show Act.put _ (some 61) _ = _
                    simp only [Act.put, List.setIfInBounds_toArray, List.set_cons_zero, List.set_cons_succ, i64_w, i32_w]
                    rfl
                  refine pure_ (i := 10) (N := some 62) (v := ?_) (a' := ?_) #[true, true, true, true, true, true, true, true, true, true, true, false] rfl rfl (by kernel_rfl) (fun _ _ _ h => h) (Or.inl ⟨by rfl, ?_⟩) ?_ ?_
                  rotate_left
                  · intro w'
                    go_simp
                    with_reducible rfl
                  rotate_left
                  · simp only [Act.put, List.setIfInBounds_toArray, List.set_cons_zero, List.set_cons_succ, i64_w, i32_w]
                    rfl
                  refine pure_ (i := 11) (N := some 63) (v := ?_) (a' := ?_) #[true, true, true, true, true, true, true, true, true, true, true, true] rfl rfl (by kernel_rfl) (fun _ _ _ h => h) (Or.inl ⟨by rfl, ?_⟩) ?_ ?_
                  rotate_left
                  · intro w'
                    go_simp
                    with_reducible rfl
                  rotate_left
                  · simp only [Act.put, List.setIfInBounds_toArray, List.set_cons_zero, List.set_cons_succ, i64_w, i32_w]
                    rfl
                  refine done_ (by kernel_rfl) ?_
                  have MD3 := midSlot_below MD.out (below_step (below_drew (Below.refl _ _)) hbc) (Nat.le_trans ST.out.le0 (Nat.le_trans (Nat.le_trans ST.out.kept.1 HB2.out.size) MD.out.kept.1))
                  have HFB2 := Aside0.mk (blk_below (blk_drew HFB.out) hbc)
                  have hrk2 := ST.out.rd k hk
                  rw [HLk.out, HA.out] at hrk2
                  obtain ⟨A1, hcut, hrd1⟩ := cutSlot (cc := c k) hrk2 (by have := ST.out.cap k hk; rw [HLk.out] at this; exact this)
                  have hrc : w3.cell? ⟨wp.heap.size + 1, k, none⟩ = some (.pointer (p k)) := (blk_cell MD3.rows k).trans (arr3_at hk)
                  have hrf := blk_frozen MD3.rows k
                  have hLR : w.heap.size ≠ wp.heap.size + 1 := by have := HLBp.out; omega
                  have hl1 : ∀ v : Value, (w3.setCell ⟨wp.heap.size + 1, k, none⟩ v).cell? ⟨w.heap.size, k, none⟩ = some (.slice (A' k) (if k < k then (takeEq cmpS y (L k)).2 else L k).length (c' k)) := fun v => (blk_cell (blk_far MD3.lists hLR v) k).trans (arr3_at hk)
                  have hl2 : ∀ v : Value, (w3.setCell ⟨wp.heap.size + 1, k, none⟩ v).frozen? ⟨w.heap.size, k, none⟩ = false := fun v => blk_frozen (blk_far MD3.lists hLR v) k
                  have MD4 := Aside0.mk (midSlot_take (cc := c k - 1) hk MD3 HLk.out HC.out hrd1 (by have := ST.out.cap k hk; rw [HLk.out, List.length_cons] at this; omega) hLR (Nat.le_trans ST.out.le0 ST.out.leB) (Nat.le_trans (Nat.le_trans ST.out.le0 (Nat.le_trans ST.out.kept.1 HB2.out.size)) (Nat.le_succ _)) hF0 (Nat.le_succ _))
                  have HFB3 := Aside0.mk (blk_far (blk_far HFB2.out (p := ⟨wp.heap.size + 1, k, none⟩) (by show wp.heap.size ≠ wp.heap.size + 1; omega) (.pointer (some ad))) (p := ⟨w.heap.size, k, none⟩) (by show wp.heap.size ≠ w.heap.size; have := HLBp.out; omega) (.slice A1 t.length (c k - 1)))
                  have hk00 : (0 : Int) ≤ (k : Int) := by omega
                  clear MD3 hrk2 hrd1 HFB2
                  go_wp2_with fail
                  go_roundg (3 - k)
                  case measure => have := HQ3.out; omega
                  case rel => exact ⟨k + 1, upd p k (some ad), upd A' k A1, upd c' k (c k - 1), by go_num, by omega, ⟨by have := HQ3.out; omega⟩, HFB3, MD4⟩
                · have hcb : (cmpS x y == 0) = false := beq_eq_false_iff_ne.mpr hc
                  have HC := Aside0.mk hc
                  clear hc
                  have hxr := Kd.C_drew hF.2.2.2.2
                  have hxc := hF.2.2.2.1
                  have hyr := Kd.C_drew (Kd.C_below HF4.out MD.out.bel)
                  refine start_ (n := 12) (S := fun w' => w'.cell? ad = some (.int .i64 x.f0) ∧ w'.cell? ⟨ad.block, ad.off + 1, none⟩ = some (.int .i64 x.f1) ∧ w'.cell? ⟨ad.block, ad.off + 2, none⟩ = some (.slice Ax x.f2.length cx) ∧ w'.cell? ⟨wp.heap.size, 0, none⟩ = some (.int .i64 y.f0) ∧ w'.cell? ⟨wp.heap.size, 1, none⟩ = some (.int .i64 y.f1) ∧ w'.cell? ⟨wp.heap.size, 2, none⟩ = some (.slice Ay y.f2.length cy)) (ds := []) #[false, false, false, false, false, false, false, false, false, false, false, false] (by kernel_rfl) rfl rfl ⟨hF.1, hF.2.1, hF.2.2.1, hf0, hf1, hf2⟩ (fun hHeld => ?_)
                  refine pure_ (i := 0) (N := some 52) (v := ?_) (a' := ?_) #[true, false, false, false, false, false, false, false, false, false, false, false] rfl rfl (by kernel_rfl) (fun _ _ _ h => h) (Or.inl ⟨by rfl, ?_⟩) ?_ ?_
                  rotate_left
                  · intro w'
                    go_simp
                    with_reducible rfl
                  rotate_left
                  · simp only [Act.put, List.setIfInBounds_toArray, List.set_cons_zero, List.set_cons_succ, i64_w, i32_w]
                    rfl
                  refine pure_ (i := 1) (N := some 53) (v := ?_) (a' := ?_) #[true, true, false, false, false, false, false, false, false, false, false, false] rfl rfl (by kernel_rfl) (fun _ _ _ h => h) (Or.inl ⟨by rfl, ?_⟩) ?_ ?_
                  rotate_left
                  · intro w'
                    go_simp
                    with_reducible rfl
                  rotate_left
                  · simp only [Act.put, List.setIfInBounds_toArray, List.set_cons_zero, List.set_cons_succ, i64_w, i32_w]
                    rfl
                  refine pure_ (i := 2) (N := some 54) (v := ?_) (a' := ?_) #[true, true, true, false, false, false, false, false, false, false, false, false] rfl rfl (by kernel_rfl) (fun _ _ _ h => h) (Or.inl ⟨by rfl, ?_⟩) ?_ ?_
                  rotate_left
                  · intro w'
                    go_simp
                    with_reducible rfl
                  rotate_left
                  · simp only [Act.put, List.setIfInBounds_toArray, List.set_cons_zero, List.set_cons_succ, i64_w, i32_w]
                    rfl
                  refine pure_ (i := 3) (N := some 55) (v := ?_) (a' := ?_) #[true, true, true, true, false, false, false, false, false, false, false, false] rfl rfl (by kernel_rfl) (fun _ _ _ h => h) (Or.inl ⟨by rfl, ?_⟩) ?_ ?_
                  rotate_left
                  · intro w'
                    go_simp
                    with_reducible rfl
                  rotate_left
                  · simp only [Act.put, List.setIfInBounds_toArray, List.set_cons_zero, List.set_cons_succ, i64_w, i32_w]
                    rfl
                  refine pure_ (i := 4) (N := some 56) (v := ?_) (a' := ?_) #[true, true, true, true, true, false, false, false, false, false, false, false] rfl rfl (by kernel_rfl) (fun _ _ _ h => h) (Or.inl ⟨by rfl, ?_⟩) ?_ ?_
                  rotate_left
                  · intro w'
                    go_simp
                    with_reducible rfl
                  rotate_left
                  · simp only [Act.put, List.setIfInBounds_toArray, List.set_cons_zero, List.set_cons_succ, i64_w, i32_w]
                    rfl
                  refine pure_ (i := 5) (N := some 57) (v := ?_) (a' := ?_) #[true, true, true, true, true, true, false, false, false, false, false, false] rfl rfl (by kernel_rfl) (fun _ _ _ h => h) (Or.inl ⟨by rfl, ?_⟩) ?_ ?_
                  rotate_left
                  · intro w'
                    go_simp
                    with_reducible rfl
                  rotate_left
                  · simp only [Act.put, List.setIfInBounds_toArray, List.set_cons_zero, List.set_cons_succ, i64_w, i32_w]
                    rfl
                  refine pure_ (i := 6) (N := some 58) (v := ?_) (a' := ?_) #[true, true, true, true, true, true, true, false, false, false, false, false] rfl rfl (by kernel_rfl) (fun _ _ _ h => h) (Or.inl ⟨by rfl, ?_⟩) ?_ ?_
                  rotate_left
                  · intro w'
                    go_simp
                    with_reducible rfl
                  rotate_left
                  · simp only [Act.put, List.setIfInBounds_toArray, List.set_cons_zero, List.set_cons_succ, i64_w, i32_w]
                    rfl
                  refine take_ (i := 7) (N := some 59) (v := ?_) (a' := ?_) #[true, true, true, true, true, true, true, true, false, false, false, false] rfl rfl (by kernel_rfl) (fun _ _ _ h => h) (Or.inl ⟨by rfl, ?_⟩) hHeld ?_ ?_
                  rotate_left
                  · rintro w' ⟨s0, s1, s2, s3, s4, s5⟩
                    go_simp
                    with_reducible rfl
                  rotate_left
                  · simp only [Act.put, List.setIfInBounds_toArray, List.set_cons_zero, List.set_cons_succ, i64_w, i32_w]
                    rfl
                  refine take_ (i := 8) (N := some 60) (v := ?_) (a' := ?_) #[true, true, true, true, true, true, true, true, true, false, false, false] rfl rfl (by kernel_rfl) (fun _ _ _ h => h) (Or.inl ⟨by rfl, ?_⟩) hHeld ?_ ?_
                  rotate_left
                  · rintro w' ⟨s0, s1, s2, s3, s4, s5⟩
                    go_simp
                    with_reducible rfl
                  rotate_left
                  · simp only [Act.put, List.setIfInBounds_toArray, List.set_cons_zero, List.set_cons_succ, i64_w, i32_w]
                    rfl
                  refine one_ (i := 9) (N := some 61) #[true, true, true, true, true, true, true, true, true, true, false, false] rfl rfl (by kernel_rfl) (by decide) (fun K hK => ?_)
                  refine goesV_ (t := 56) (enters_ Try.func29 (by kernel_rfl) rfl) #[.agg #[.int .i64 x.f0, .int .i64 x.f1, .slice Ax x.f2.length cx], .agg #[.int .i64 y.f0, .int .i64 y.f1, .slice Ay y.f2.length cy]] (by rfl) rfl rfl (by rfl) (by simp only [List.map_toArray, List.map_cons, List.map_nil]; rfl) ?_
                  rw [Array.append_empty]
                  with_reducible refine (merge3_compareSlots.calls 3 _ _ _ _ _ _ _ _ _ _ _ _ hxr hxc hyr HF3.out (compareSlots_is x y)).mono ?_
                  rintro e w3 ⟨rfl, hbc⟩
                  refine ⟨_, rfl, ?_⟩
                  refine hK.out _ _ ⟨pw_cell_below hbc (hHeld.1), pw_cell_below hbc (hHeld.2.1), pw_cell_below hbc (hHeld.2.2.1), pw_cell_below hbc (hHeld.2.2.2.1), pw_cell_below hbc (hHeld.2.2.2.2.1), pw_cell_below hbc (hHeld.2.2.2.2.2)⟩ (fun hHeld => ?_)
                  clear hK K
                  refine norm_ (a' := ?_) ?_ ?_
                  rotate_left
                  · show Act.put _ (some 61) _ = _
                    simp only [Act.put, List.setIfInBounds_toArray, List.set_cons_zero, List.set_cons_succ, i64_w, i32_w]
                    rfl
                  refine pure_ (i := 10) (N := some 62) (v := ?_) (a' := ?_) #[true, true, true, true, true, true, true, true, true, true, true, false] rfl rfl (by kernel_rfl) (fun _ _ _ h => h) (Or.inl ⟨by rfl, ?_⟩) ?_ ?_
                  rotate_left
                  · intro w'
                    go_simp
                    with_reducible rfl
                  rotate_left
                  · simp only [Act.put, List.setIfInBounds_toArray, List.set_cons_zero, List.set_cons_succ, i64_w, i32_w]
                    rfl
                  refine pure_ (i := 11) (N := some 63) (v := ?_) (a' := ?_) #[true, true, true, true, true, true, true, true, true, true, true, true] rfl rfl (by kernel_rfl) (fun _ _ _ h => h) (Or.inl ⟨by rfl, ?_⟩) ?_ ?_
                  rotate_left
                  · intro w'
                    go_simp
                    with_reducible rfl
                  rotate_left
                  · simp only [Act.put, List.setIfInBounds_toArray, List.set_cons_zero, List.set_cons_succ, i64_w, i32_w]
                    rfl
                  refine done_ (by kernel_rfl) ?_
                  have MD2 := Aside0.mk (midSlot_same hk (midSlot_below MD.out (below_step (below_drew (Below.refl _ _)) hbc) (Nat.le_trans ST.out.le0 (Nat.le_trans (Nat.le_trans ST.out.kept.1 HB2.out.size) MD.out.kept.1))) (by rw [HLk.out]; exact (takeSlot_skip HC.out).1) (by rw [HLk.out]; exact (takeSlot_skip HC.out).2) (ST.out.rd k hk) (ST.out.cap k hk))
                  have HFB2 := Aside0.mk (blk_below (blk_drew HFB.out) hbc)
                  go_wp2_with fail
                  go_roundg (3 - k)
                  case measure => have := HQ3.out; omega
                  case rel => exact ⟨k + 1, p, A', c', by go_num, by omega, ⟨by have := HQ3.out; omega⟩, HFB2, MD2⟩
            · obtain rfl : k = 3 := by omega
              have hr0 : wr.cell? ⟨wp.heap.size + 1, 0, none⟩ = some (.pointer (p 0)) := (blk_cell MD.out.rows 0).trans rfl
              have hr1 : wr.cell? ⟨wp.heap.size + 1, 1, none⟩ = some (.pointer (p 1)) := (blk_cell MD.out.rows 1).trans rfl
              have hr2 : wr.cell? ⟨wp.heap.size + 1, 2, none⟩ = some (.pointer (p 2)) := (blk_cell MD.out.rows 2).trans rfl
              go_wp2_with (refine goesVL_ (t := 73) (some 75) rfl rfl EG.out #[.agg #[.pointer (p 0), .pointer (p 1), .pointer (p 2)]] rfl rfl (by simp only [List.map_toArray, List.map_cons, List.map_nil]; rfl) ?_)
              have hRest := rowsOf_some cmpS_self (j := j) HM1.out
              have hle3 : wo.heap.size ≤ wr.heap.size := Nat.le_trans HB2.out.size MD.out.kept.1
              have hI3 := HM.out done ok wo wr HI.out (fun q hq hlt => (MD.out.kept.2 q (Nat.lt_of_lt_of_le hlt HB2.out.size) (fun e => ST.out.nok (e ▸ hq))).trans (HB2.out.block q hlt))
              refine (HV.out done (rowOf cmpS y L) (rowsOf cmpS (restOf cmpS y L)) _ wr (p 0) (p 1) (p 2) (by rw [← hRest]; exact HD.out) hI3 MD.out.bel (Nat.le_trans ST.out.le0 (Nat.le_trans ST.out.kept.1 hle3)) (slot?_below (MD.out.done 0 (by omega) (by omega)).1 MD.out.bel) (slot?_below (MD.out.done 1 (by omega) (by omega)).1 MD.out.bel) (slot?_below (MD.out.done 2 (by omega) (by omega)).1 MD.out.bel)).mono ?_
              rintro e w4 ⟨rfl, hI4, hB4, hK4⟩
              refine ⟨_, rfl, ?_⟩
              have hnok : ¬ (ok w.heap.size ∧ w.heap.size < wo.heap.size) := fun h => ST.out.nok h.1
              have hST := Aside0.mk (rstSlot_next ST.out HB2.out MD.out hB4 hK4)
              have hHI := Aside0.mk hI4
              have hHD : Aside0 ((done ++ [rowOf cmpS y L]) ++ rowsOf cmpS (restOf cmpS y L) = rowsOf cmpS L0) := ⟨by rw [List.append_assoc, List.singleton_append, ← hRest]; exact HD.out⟩
              have hTL := Aside0.mk (rest_less cmpS_self (j := j) HM1.out)
              clear hI4 hB4 hK4 hRest hle3 hI3 hnok hr0 hr1 hr2
              go_wp2_with fail
              go_roundg (total L)
              case measure => exact HK.out
              case rel => exact ⟨restOf cmpS y L, A', c', _, done ++ [rowOf cmpS y L], hTL, hHD, hST, hHI⟩
end Go.Proofs.Ytcecekmhikmkhaa.M
