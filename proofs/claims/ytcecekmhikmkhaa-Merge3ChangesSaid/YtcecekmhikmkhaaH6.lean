/- The contract of merge3.mergeAlts (function 32): it returns in new memory what the plain function mergeAltsP lists. For every three lists of alternatives that read as data and are not too long. -/
import Derived.Test.YtcecekmhikmkhaaH4
namespace Go.Proofs.Ytcecekmhikmkhaa.M
open Go.RowKit Go.Proofs.YtcecekmhikmkhaaW.PrintWords Go.Proofs.YtcecekmhikmkhaaW.PrintLast Go.Proofs.YtcecekmhikmkhaaW.PrintMore
set_option linter.unusedVariables false
set_option linter.unusedSimpArgs false
def keptRow (r : Row S49) : List S49 := keptAlt r.1 r.2.1 r.2.2
def mergeAltsP (L : Nat → List S49) : List S49 := (rowsOf cmpA L).flatMap keptRow
theorem keptRow_le (r : Row S49) : (keptRow r).length ≤ 1 := by
  obtain ⟨x, y, z⟩ := r
  cases x <;> cases y <;> cases z <;> simp [keptRow, keptAlt]
theorem kept_le (l : List (Row S49)) : (l.flatMap keptRow).length ≤ l.length := by
  induction l with
  | nil => simp
  | cons r l ih =>
    rw [List.flatMap_cons, List.length_append, List.length_cons]
    have := keptRow_le r
    omega
/-- What holds while mergeAlts goes through its rows. -/
def IAlt (B g : Nat) (done : List (Row S49)) (ok : Nat → Prop) (w : World) : Prop :=
  ok g ∧ ∃ v ok1, w.heap[g]? = some (.cells #[v] 37 (0, 0)) ∧ Kd.R k49 49 w B ok1 v (done.flatMap keptRow) ∧ ∀ k, ok1 k → ok k
theorem iAlt_move {B g : Nat} {done : List (Row S49)} {ok : Nat → Prop} {w w' : World} (h : IAlt B g done ok w) (hm : ∀ k, ok k → k < w.heap.size → w'.heap[k]? = w.heap[k]?) : IAlt B g done (fun k => ok k ∧ k < w.heap.size) w' := by
  obtain ⟨h0, v, ok1, hg, hR, h1⟩ := h
  have hlt := blk_lt hg
  exact ⟨⟨h0, hlt⟩, v, fun k => ok1 k ∧ k < w.heap.size, (hm g h0 hlt).trans hg, Kd.R_step (Kd.R_mono (Kd.R_bound hR) (fun k hk => ⟨hk.1, hk.2.2.1⟩)) (fun k hk hl => hm k (h1 k hk.1) hl), fun k hk => ⟨h1 k hk.1, hk.2⟩⟩
theorem iAlt_visit (w0 : World) (L : Nat → List S49) (g : Nat) (hBg : w0.heap.size ≤ g) (hlen : total L * 48 ≤ 140737488355328) (done : List (Row S49)) (row : Row S49) (rest : List (Row S49)) (ok : Nat → Prop) (wv : World) (p q r : Option Addr)
    (hd : done ++ row :: rest = rowsOf cmpA L) (hI : IAlt w0.heap.size g done ok wv) (hb : Below w0.heap.size w0 wv) (hle : w0.heap.size ≤ wv.heap.size) (hp : Alt? wv p row.1) (hq : Alt? wv q row.2.1) (hr : Alt? wv r row.2.2) :
    Calls Try.prog 55 (#[.agg #[.pointer p, .pointer q, .pointer r]] ++ #[.pointer (some ⟨g, 0, none⟩)]) wv fun e w' => e = .returned (.tuple #[]) ∧ IAlt w0.heap.size g (done ++ [row]) (fun k => ok k ∨ wv.heap.size ≤ k) w' ∧ Below w0.heap.size w0 w' ∧ Kept wv w' ok := by
  obtain ⟨h0, v, ok1, hg, hR, h1⟩ := hI
  have hdl : done.length + 1 ≤ total L := by
    have e1 := congrArg List.length hd
    rw [List.length_append, List.length_cons] at e1
    have e2 := rowsOf_length cmpA_self (total L) L (Nat.le_refl _)
    omega
  have hk := kept_le done
  refine (visitAlt_calls w0 wv w0.heap.size p q r row.1 row.2.1 row.2.2 hp hq hr g v (done.flatMap keptRow) ok1 hg hR hb hle hBg (by omega)).mono ?_
  rintro e w' ⟨rfl, v', hg', hR', hb', hk'⟩
  refine ⟨rfl, ⟨.inl h0, v', fun k => ok1 k ∨ wv.heap.size ≤ k, hg', ?_, fun k hk => Or.imp (h1 k) id hk⟩, hb', hk'.mono ?_⟩
  · rw [List.flatMap_append]
    simpa [keptRow] using hR'
  · rintro k (rfl | hk)
    · exact h0
    · exact h1 k (hR.1 k hk.symm)
set_option maxRecDepth 100000 in
set_option maxHeartbeats 4000000 in
theorem mergeAlts_calls (w : World) (L : Nat → List S49) (A : Nat → Option Addr) (c : Nat → Nat) (hrd : ∀ i, i < 3 → Kd.C k49 w (A i) (L i).length (L i)) (hcap : ∀ i, i < 3 → (L i).length ≤ c i) (hlen : total L * 48 ≤ 140737488355328) :
    Calls Try.prog 32 #[.agg #[.slice (A 0) (L 0).length (c 0), .slice (A 1) (L 1).length (c 1), .slice (A 2) (L 2).length (c 2)]] w fun e w' => ∃ v : Value, e = .returned v ∧ Kd.R k49 49 w' w.heap.size (fun _ => True) v (mergeAltsP L) ∧ Below w.heap.size w w' := by
  have hb2 : ∀ o1 o2 : Obj, Below w.heap.size w ((w.alloc o1).alloc o2) := fun o1 o2 => below_alloc (below_alloc (Below.refl _ _) _) _
  have hg0 : ∀ o1 : Obj, ((w.alloc o1).alloc (.cells #[.slice none 0 0] 37)).heap[w.heap.size + 1]? = some (.cells #[.slice none 0 0] 37 (0, 0)) := fun o1 => by
    have := blk_new (w.alloc o1) (.cells #[.slice none 0 0] 37)
    rw [World.size_alloc] at this
    exact this
  have HB2 := Aside0.mk hb2
  have HG0 := Aside0.mk hg0
  have HRD := Aside0.mk hrd
  clear hb2 hg0 hrd
  go_enter Try.func32, Try.ntmps32
  go_wp2_with fail
  refine (rowsAlt_calls w _ L A c 55 #[.pointer (some ⟨w.heap.size + 1, 0, none⟩)] (fun k => k = w.heap.size + 1) (IAlt w.heap.size (w.heap.size + 1)) HRD.out hcap (HB2.out _ _) (HB2.out _ _).size (enters_ Try.func55 (by kernel_rfl) rfl)
    (fun done row rest ok wv p q r hd hI hb hle hp hq hr => iAlt_visit w L _ (Nat.le_succ _) hlen done row rest ok wv p q r hd hI hb hle hp hq hr) (fun _ _ _ _ h hm => iAlt_move h hm)
    ⟨rfl, _, fun _ => False, HG0.out _, Kd.R_nil _ _ _ _ _, fun _ h => h.elim⟩).mono ?_
  rintro e w4 ⟨rfl, ⟨ok, h0, v, ok1, hg, hR, h1⟩, hB, hK⟩
  replace hR : Kd.R k49 49 w4 w.heap.size ok1 v (mergeAltsP L) := hR
  obtain ⟨Av, cv, rfl⟩ := Kd.R_slice hR
  have hc : w4.cell? ⟨w.heap.size + 1, 0, none⟩ = some (.slice Av (mergeAltsP L).length cv) := (blk_cell hg 0).trans rfl
  have HR := Aside0.mk hR
  have HB := Aside0.mk hB
  clear hR hB hK hg h1 h0
  go_wp2_with fail
  go_ret
  exact ⟨.slice Av (mergeAltsP L).length cv, rfl, Kd.R_mono HR.out (fun _ _ => trivial), HB.out⟩
theorem mergeAlts3_calls (w : World) (l0 l1 l2 : List S49) (A0 A1 A2 : Option Addr) (c0 c1 c2 : Nat) (h0 : Kd.C k49 w A0 l0.length l0) (h1 : Kd.C k49 w A1 l1.length l1) (h2 : Kd.C k49 w A2 l2.length l2) (b0 : l0.length ≤ c0) (b1 : l1.length ≤ c1) (b2 : l2.length ≤ c2) (hlen : (l0.length + l1.length + l2.length) * 48 ≤ 140737488355328) :
    Calls Try.prog 32 #[.agg #[.slice A0 l0.length c0, .slice A1 l1.length c1, .slice A2 l2.length c2]] w fun e w' => ∃ v : Value, e = .returned v ∧ Kd.R k49 49 w' w.heap.size (fun _ => True) v (mergeAltsP (pick3 l0 l1 l2)) ∧ Below w.heap.size w w' :=
  mergeAlts_calls w (pick3 l0 l1 l2) (pick3 A0 A1 A2) (pick3 c0 c1 c2) (fun i hi => by rcases (by omega : i = 0 ∨ i = 1 ∨ i = 2) with rfl | rfl | rfl <;> assumption) (fun i hi => by rcases (by omega : i = 0 ∨ i = 1 ∨ i = 2) with rfl | rfl | rfl <;> assumption) hlen
end Go.Proofs.Ytcecekmhikmkhaa.M
