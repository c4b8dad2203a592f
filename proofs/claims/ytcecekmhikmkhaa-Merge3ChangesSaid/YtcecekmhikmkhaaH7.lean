/- The closure of merge3.Merge (function 30): what it appends to what it captured, for every row of slots that reads as data. -/
import Derived.Test.YtcecekmhikmkhaaH1
import Derived.Test.YtcecekmhikmkhaaH5
import Derived.Test.YtcecekmhikmkhaaH6
namespace Go.Proofs.Ytcecekmhikmkhaa.M
open Go.RowKit Go.Proofs.YtcecekmhikmkhaaW.PrintWords Go.Proofs.YtcecekmhikmkhaaW.PrintLast Go.Proofs.YtcecekmhikmkhaaW.PrintMore
set_option linter.unusedVariables false
set_option linter.unusedSimpArgs false
def altsO : Option S53 → List S49
  | none => []
  | some s => s.f2
/-- The alternatives of a row's three slots. -/
def altsRow (r : Row S53) : Nat → List S49 := pick3 (altsO r.1) (altsO r.2.1) (altsO r.2.2)
def firstS : Row S53 → S53
  | (some x, _, _) => x
  | (none, some y, _) => y
  | (none, none, some z) => z
  | (none, none, none) => z53
def keptSlot (r : Row S53) : List S53 := if mergeAltsP (altsRow r) = [] then [] else [⟨(firstS r).f0, (firstS r).f1, mergeAltsP (altsRow r)⟩]
theorem slot_first {w : World} {p q r : Option Addr} {x y z : Option S53} (hp : Slot? w p x) (hq : Slot? w q y) (hr : Slot? w r z) (h : (x, y, z) ≠ ((none, none, none) : Row S53)) :
    ∃ a, (p = some a ∨ p = none ∧ q = some a ∨ p = none ∧ q = none ∧ r = some a) ∧ w.cell? a = some (.int .i64 (firstS (x, y, z)).f0) ∧ w.cell? ⟨a.block, a.off + 1, none⟩ = some (.int .i64 (firstS (x, y, z)).f1) := by
  rcases hp with ⟨rfl, rfl⟩ | ⟨a, e, A2, c2, rfl, rfl, hf⟩
  · rcases hq with ⟨rfl, rfl⟩ | ⟨a, e, A2, c2, rfl, rfl, hf⟩
    · rcases hr with ⟨rfl, rfl⟩ | ⟨a, e, A2, c2, rfl, rfl, hf⟩
      · exact absurd rfl h
      · exact ⟨a, .inr (.inr ⟨rfl, rfl, rfl⟩), hf.1, hf.2.1⟩
    · exact ⟨a, .inr (.inl ⟨rfl, rfl⟩), hf.1, hf.2.1⟩
  · exact ⟨a, .inl rfl, hf.1, hf.2.1⟩
theorem slot_alts {w : World} {p : Option Addr} {x : Option S53} (hp : Slot? w p x) : ∃ A c, AltsAt w p A (altsO x).length c ∧ (altsO x).length ≤ c ∧ Kd.C k49 w A (altsO x).length (altsO x) := by
  rcases hp with ⟨rfl, rfl⟩ | ⟨a, e, A2, c2, rfl, rfl, hf⟩
  · exact ⟨none, 0, ⟨fun _ => ⟨rfl, rfl, rfl⟩, fun a h => by cases h⟩, Nat.le_refl _, Kd.C_nil _ _⟩
  · exact ⟨A2, c2, ⟨fun h => (by cases h), fun a' h => by injection h with h; subst h; exact hf.2.2.1⟩, hf.2.2.2.1, hf.2.2.2.2⟩
theorem altsAt_below {w w1 : World} {p A : Option Addr} {n c : Nat} (h : AltsAt w p A n c) (hb : Below w.heap.size w w1) : AltsAt w1 p A n c := ⟨h.1, fun a ha => pw_cell_below hb (h.2 a ha)⟩
theorem altsRow_none : mergeAltsP (altsRow (none, none, none)) = [] := by
  have h : minUpTo cmpA (altsRow (none, none, none)) 3 = none := rfl
  unfold mergeAltsP
  rw [rowsOf_none h]
  rfl
set_option maxRecDepth 100000 in
set_option maxHeartbeats 8000000 in
theorem visitMerge_calls (w0 w : World) (B : Nat) (p q r : Option Addr) (x y z : Option S53) (hp : Slot? w p x) (hq : Slot? w q y) (hr : Slot? w r z) (g : Nat) (v : Value) (xs : List S53) (ok : Nat → Prop)
    (hG : w.heap[g]? = some (.cells #[v] 23 (0, 0))) (HR : Kd.R k53 53 w B ok v xs) (HB : Below B w0 w) (hBw : B ≤ w.heap.size) (hBg : B ≤ g) (hlen : (xs.length + 1) * 40 ≤ 140737488355328) (htot : total (altsRow (x, y, z)) * 48 ≤ 140737488355328) :
    Calls Try.prog 30 #[.agg #[.pointer p, .pointer q, .pointer r], .pointer (some ⟨g, 0, none⟩)] w fun e w' => e = .returned (.tuple #[]) ∧ ∃ v' : Value, w'.heap[g]? = some (.cells #[v'] 23 (0, 0)) ∧ Kd.R k53 53 w' B (fun k => ok k ∨ w.heap.size ≤ k) v' (xs ++ keptSlot (x, y, z)) ∧ Below B w0 w' ∧ Kept w w' (fun k => k = g ∨ some k = v.ownBlock) := by
  obtain ⟨Ag, cg, rfl⟩ := Kd.R_slice HR
  obtain ⟨A1, c1, ha1, hc1, hr1⟩ := slot_alts hp
  obtain ⟨A2, c2, ha2, hc2, hr2⟩ := slot_alts hq
  obtain ⟨A3, c3, ha3, hc3, hr3⟩ := slot_alts hr
  have E1 := Aside0.mk ha1
  have E2 := Aside0.mk ha2
  have E3 := Aside0.mk ha3
  have C1 := Aside0.mk hr1
  have C2 := Aside0.mk hr2
  have C3 := Aside0.mk hr3
  have HP := Aside0.mk hp
  have HQ := Aside0.mk hq
  have HS := Aside0.mk hr
  have HR1 := Aside0.mk HR
  have HG := Aside0.mk hG
  have HBB := Aside0.mk HB
  clear ha1 ha2 ha3 hr1 hr2 hr3 hp hq hr HR hG HB
  go_enter Try.func30, Try.ntmps30
  go_wp2_with fail
  have hb0 : Below w.heap.size w (w.alloc (.cells #[.pointer p, .pointer q, .pointer r] 58)) := below_alloc (Below.refl _ _) _
  have hbox : (w.alloc (.cells #[.pointer p, .pointer q, .pointer r] 58)).heap[w.heap.size]? = some (.cells #[.pointer p, .pointer q, .pointer r] 58 (0, 0)) := blk_new _ _
  refine (alternatives_calls _ p q r A1 A2 A3 _ _ _ c1 c2 c3 (altsAt_below E1.out hb0) (altsAt_below E2.out hb0) (altsAt_below E3.out hb0)).mono ?_
  rintro e w1 ⟨rfl, hb1⟩
  have hB1 := Aside0.mk (below_step hb0 hb1)
  have HX := Aside0.mk (blk_below hbox hb1)
  clear hb0 hbox hb1
  go_wp2_with fail
  have hba : Below w.heap.size w (w1.alloc (.cells #[.slice A1 (altsO x).length c1, .slice A2 (altsO y).length c2, .slice A3 (altsO z).length c3] 59)) := below_alloc hB1.out _
  refine (mergeAlts3_calls _ (altsO x) (altsO y) (altsO z) A1 A2 A3 c1 c2 c3 (Kd.C_below C1.out hba) (Kd.C_below C2.out hba) (Kd.C_below C3.out hba) hc1 hc2 hc3 htot).mono ?_
  rintro e w2 ⟨v, rfl, hm, hb2⟩
  have hB2 := Aside0.mk (below_step hba hb2)
  have HX2 := Aside0.mk (blk_below (blk_alloc HX.out _) hb2)
  have hsz := hba.size
  have HK : Aside0 (keptSlot (x, y, z) = if mergeAltsP (pick3 (altsO x) (altsO y) (altsO z)) = [] then [] else [⟨(firstS (x, y, z)).f0, (firstS (x, y, z)).f1, mergeAltsP (pick3 (altsO x) (altsO y) (altsO z))⟩]) := ⟨rfl⟩
  have HN : Aside0 (mergeAltsP (pick3 (altsO x) (altsO y) (altsO z)) ≠ [] → (x, y, z) ≠ ((none, none, none) : Row S53)) := ⟨fun h1 h2 => h1 (by injection h2 with e1 e2; injection e2 with e2 e3; subst e1 e2 e3; exact altsRow_none)⟩
  obtain ⟨M, hM⟩ : ∃ M, M = mergeAltsP (pick3 (altsO x) (altsO y) (altsO z)) := ⟨_, rfl⟩
  rw [← hM] at hm HK HN
  obtain ⟨Am, cm, rfl⟩ := Kd.R_slice hm
  have HM := Aside0.mk (Kd.R_mono (ok' := fun k => w.heap.size ≤ k) (Kd.R_bound hm) (fun k hk => Nat.le_trans hsz hk.2.1))
  clear hm hM hba hb2
  rcases list_cases M with rfl | ⟨mh, mt, hMe⟩
  · rw [show ([] : List S49).length = 0 from rfl]
    go_wp2_with fail
    go_end0
    rw [show keptSlot (x, y, z) = [] by have := HK.out; simpa using this, List.append_nil]
    exact ⟨rfl, _, blk_below HG.out hB2.out, Kd.R_mono (Kd.R_below HR1.out hB2.out) (fun _ hk => .inl hk), HBB.out.trans (hB2.out.mono hBw), Kept.of_below hB2.out _⟩
  · have hpos : (0 : Int) < (M.length : Int) := by rw [hMe, List.length_cons]; omega
    have hposb : decide ((0 : Int) < (M.length : Int)) = true := decide_eq_true hpos
    have hposn : 0 < M.length := by omega
    have hMne : M ≠ [] := by rw [hMe]; simp
    have HMN := Aside0.mk hMne
    clear hMe hMne
    have hx0 : w2.cell? ⟨w.heap.size, 0, none⟩ = some (.pointer p) := (blk_cell HX2.out 0).trans rfl
    have hx1 : w2.cell? ⟨w.heap.size, 1, none⟩ = some (.pointer q) := (blk_cell HX2.out 1).trans rfl
    have hx2 : w2.cell? ⟨w.heap.size, 2, none⟩ = some (.pointer r) := (blk_cell HX2.out 2).trans rfl
    go_wp2_with fail
    obtain ⟨a, hfa, hfi, hff⟩ := slot_first HP.out HQ.out HS.out (HN.out HMN.out)
    refine (register_calls w2 p q r a (firstS (x, y, z)).f0 (firstS (x, y, z)).f1 hfa (pw_cell_below hB2.out hfi) (pw_cell_below hB2.out hff)).mono ?_
    rintro e w3 ⟨rfl, hb3⟩
    have hB3 := below_step hB2.out hb3
    have hcs : keptSlot (x, y, z) = [⟨(firstS (x, y, z)).f0, (firstS (x, y, z)).f1, M⟩] := by rw [HK.out]; exact if_neg HMN.out
    have HKS := Aside0.mk hcs
    obtain ⟨f0, hf0⟩ : ∃ n, n = (firstS (x, y, z)).f0 := ⟨_, rfl⟩
    obtain ⟨f1, hf1⟩ : ∃ n, n = (firstS (x, y, z)).f1 := ⟨_, rfl⟩
    rw [← hf0, ← hf1] at HKS ⊢
    clear hf0 hf1 hcs hfa hfi hff hx0 hx1 hx2
    have hBz : Below w.heap.size w (w3.alloc (.cells #[.int .i64 f0, .int .i64 f1] 36)) := below_alloc hB3 _
    have hb3z : Below w2.heap.size w2 (w3.alloc (.cells #[.int .i64 f0, .int .i64 f1] 36)) := below_alloc hb3 _
    have hMz := Aside0.mk (Kd.R_lower (Kd.R_below HM.out hb3z) (Nat.le_trans hBw hsz))
    have hgz := blk_below HG.out hBz
    have hcz : (w3.alloc (.cells #[.int .i64 f0, .int .i64 f1] 36)).cell? ⟨g, 0, none⟩ = some (.slice Ag xs.length cg) := (blk_cell hgz 0).trans rfl
    have hRz := Aside0.mk (Kd.R_below HR1.out hBz)
    have hBBz := Aside0.mk (HBB.out.trans (hBz.mono hBw))
    have hszz := Aside0.mk hBz.size
    have HGZ := Aside0.mk hgz
    have HBZ := Aside0.mk hBz
    have hown := Aside0.mk (fun (k : Nat) (hk : w.heap.size ≤ k) => show some k ≠ (Value.slice Ag xs.length cg).ownBlock from fun e => by obtain ⟨inner, ho⟩ := Kd.R_own HR1.out; have := own_lt ho k e.symm; omega)
    have h36 : (w3.alloc (.cells #[.int .i64 f0, .int .i64 f1] 36)).heap[w3.heap.size]? = some (.cells #[.int .i64 f0, .int .i64 f1] 36 (0, 0)) := blk_new _ _
    have h360 : (w3.alloc (.cells #[.int .i64 f0, .int .i64 f1] 36)).cell? ⟨w3.heap.size, 0, none⟩ = some (.int .i64 f0) := (blk_cell h36 0).trans rfl
    have h361 : (w3.alloc (.cells #[.int .i64 f0, .int .i64 f1] 36)).cell? ⟨w3.heap.size, 1, none⟩ = some (.int .i64 f1) := (blk_cell h36 1).trans rfl
    clear hBz hb3z hgz hB3 hb3 HM h36
    go_upto_region 5 with (fail)
    generalize w3.alloc (.cells #[.int .i64 f0, .int .i64 f1] 36) = wz at hMz hcz hRz hBBz hszz HGZ HBZ h360 h361 ⊢
    generalize w3.heap.size = bz at h360 h361 ⊢
    go_wp2_with (first | (at_builtin; refine Kd.R_append k53 (w0 := w0) B rfl (.tmp 15) (.tmp 22) 23 53 (.agg #[(.int .i64 0), (.int .i64 0), (.slice none 0 0)]) 40 rfl Try.underlying23 info53 rfl (by decide) (by omega) (.slice Ag xs.length cg) xs ⟨f0, f1, M⟩ [.int .i64 f0, .int .i64 f1, .slice Am M.length cm] (fun k => ok k ∨ w.heap.size ≤ k) (fun k => w.heap.size ≤ k) rfl rfl ?aP ?aK ?aF ?aO ?aB ?aS ?aL ?_; (case aP => exact k53_mkM _ _ _ ⟨f0, f1, M⟩ hMz.out); (case aK => exact fun k hk => ⟨.inr hk, hown.out k hk⟩); (case aF => exact fun k hk => .inr (Nat.le_trans hszz.out hk)); (case aO => exact Kd.R_mono hRz.out (fun _ hk => .inl hk)); (case aB => exact hBBz.out); (case aS => exact Nat.le_trans hBw hszz.out); (case aL => exact hlen); intro v1 w5 ho hb hg hat; obtain ⟨Av, cv, rfl⟩ := Kd.R_slice ho; rw [List.length_append, List.length_singleton] at ho; have HO := Aside0.mk ho; have HB5 := Aside0.mk hb; have HG5 := Aside0.mk hg; have hg5 := blk_grown HGZ.out hg (Kd.R_ne hRz.out HGZ.out (by decide)); have hc5 : w5.cell? ⟨g, 0, none⟩ = some (.slice Ag xs.length cg) := (blk_cell hg5 0).trans rfl; have hf5 := blk_frozen hg5 0; have HG5b := Aside0.mk hg5; clear ho hb hg hat hg5))
    go_end0
    rw [HKS.out]
    refine ⟨rfl, _, blk_put HG5b.out 0 _ rfl, Kd.R_set HO.out HG5b.out (by decide) 0 _, HB5.out.setCell hBg _, ?_⟩
    exact Kept.setCell (Kept.of_grown HG5.out (Kept.of_below HBZ.out _) (fun k hk => .inl (.inr hk.symm))) (.inl (.inl rfl)) _
end Go.Proofs.Ytcecekmhikmkhaa.M
