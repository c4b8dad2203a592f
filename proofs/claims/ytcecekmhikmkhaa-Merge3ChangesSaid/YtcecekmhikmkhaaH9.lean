/- The contracts of merge3.Merge (9), Changed (13) and Both (15): what they return, as plain functions on lists. For all states whose registers, and the alternatives of each, are at most a million. -/
import Derived.Test.YtcecekmhikmkhaaH8
namespace Go.Proofs.Ytcecekmhikmkhaa.M
open Go.RowKit Go.Proofs.YtcecekmhikmkhaaW.PrintWords Go.Proofs.YtcecekmhikmkhaaW.PrintLast Go.Proofs.YtcecekmhikmkhaaW.PrintMore
set_option linter.unusedVariables false
set_option linter.unusedSimpArgs false
theorem takeEq_mem {α : Type} {cmp : α → α → Int} {f x : α} {l : List α} (h : (takeEq cmp f l).1 = some x) : x ∈ l := by
  cases l with
  | nil => simp [takeEq] at h
  | cons y t =>
    simp only [takeEq] at h
    split at h
    · injection h with h; subst h; simp
    · cases h
theorem takeEq_sub {α : Type} {cmp : α → α → Int} {f x : α} {l : List α} (h : x ∈ (takeEq cmp f l).2) : x ∈ l := by
  cases l with
  | nil => simp [takeEq] at h
  | cons y t =>
    simp only [takeEq] at h
    split at h
    · exact List.mem_cons_of_mem _ h
    · exact h
theorem rowsN_mem {α : Type} {cmp : α → α → Int} : ∀ (n : Nat) (L : Nat → List α) (r : Row α), r ∈ rowsN cmp n L → (∀ x, r.1 = some x → x ∈ L 0) ∧ (∀ x, r.2.1 = some x → x ∈ L 1) ∧ (∀ x, r.2.2 = some x → x ∈ L 2) := by
  intro n
  induction n with
  | zero => intro L r h; simp [rowsN] at h
  | succ n ih =>
    intro L r h
    rw [rowsN] at h
    cases hm : minUpTo cmp L 3 with
    | none => simp [hm] at h
    | some p =>
      obtain ⟨j, f⟩ := p
      simp only [hm, List.mem_cons] at h
      rcases h with rfl | h
      · exact ⟨fun x hx => takeEq_mem hx, fun x hx => takeEq_mem hx, fun x hx => takeEq_mem hx⟩
      · obtain ⟨h1, h2, h3⟩ := ih _ r h
        exact ⟨fun x hx => takeEq_sub (h1 x hx), fun x hx => takeEq_sub (h2 x hx), fun x hx => takeEq_sub (h3 x hx)⟩
/-- Not too many registers, and of none too many alternatives. -/
def smallS (l : List S53) : Bool := decide (l.length ≤ 1000000) && l.all fun s => decide (s.f2.length ≤ 1000000)
theorem smallS_len {l : List S53} (h : smallS l = true) : l.length ≤ 1000000 := by
  simp only [smallS, Bool.and_eq_true, decide_eq_true_eq] at h
  exact h.1
theorem smallS_alts {l : List S53} (h : smallS l = true) {s : S53} (hs : s ∈ l) : s.f2.length ≤ 1000000 := by
  simp only [smallS, Bool.and_eq_true, decide_eq_true_eq, List.all_eq_true] at h
  exact h.2 s hs
theorem smallO {l : List S53} (h : smallS l = true) {o : Option S53} (ho : ∀ x, o = some x → x ∈ l) : (altsO o).length ≤ 1000000 := by
  cases o with
  | none => simp [altsO]
  | some x => exact smallS_alts h (ho x rfl)
theorem smallRow {l0 l1 l2 : List S53} (h0 : smallS l0 = true) (h1 : smallS l1 = true) (h2 : smallS l2 = true) {r : Row S53} (hr : r ∈ rowsOf cmpS (pick3 l0 l1 l2)) : (altsO r.1).length ≤ 1000000 ∧ (altsO r.2.1).length ≤ 1000000 ∧ (altsO r.2.2).length ≤ 1000000 := by
  obtain ⟨m0, m1, m2⟩ := rowsN_mem _ _ _ hr
  exact ⟨smallO h0 m0, smallO h1 m1, smallO h2 m2⟩
theorem flat_le {α β : Type} (f : α → List β) (hf : ∀ r, (f r).length ≤ 1) (l : List α) : (l.flatMap f).length ≤ l.length := by
  induction l with
  | nil => simp
  | cons r l ih =>
    rw [List.flatMap_cons, List.length_append, List.length_cons]
    have := hf r
    omega
theorem keptSlot_le (r : Row S53) : (keptSlot r).length ≤ 1 := by unfold keptSlot; split <;> simp
theorem keptC_le (r : Row S53) : (keptC r).length ≤ 1 := by unfold keptC; split <;> simp
theorem keptB_le (r : Row S53) : (keptB r).length ≤ 1 := by unfold keptB; split <;> simp
/-- What holds while rows are gone through: what was captured (block g, type t) holds a row of the call's own. -/
def IOut {α : Type} (d : Kd α) (e t : Nat) (kept : Row S53 → List α) (B g : Nat) (done : List (Row S53)) (ok : Nat → Prop) (w : World) : Prop :=
  ok g ∧ ∃ v ok1, w.heap[g]? = some (.cells #[v] t (0, 0)) ∧ Kd.R d e w B ok1 v (done.flatMap kept) ∧ ∀ k, ok1 k → ok k
theorem iOut_move {α : Type} {d : Kd α} {e t : Nat} {kept : Row S53 → List α} {B g : Nat} {done : List (Row S53)} {ok : Nat → Prop} {w w' : World} (h : IOut d e t kept B g done ok w) (hm : ∀ k, ok k → k < w.heap.size → w'.heap[k]? = w.heap[k]?) : IOut d e t kept B g done (fun k => ok k ∧ k < w.heap.size) w' := by
  obtain ⟨h0, v, ok1, hg, hR, h1⟩ := h
  have hlt := blk_lt hg
  exact ⟨⟨h0, hlt⟩, v, fun k => ok1 k ∧ k < w.heap.size, (hm g h0 hlt).trans hg, Kd.R_step (Kd.R_mono (Kd.R_bound hR) (fun k hk => ⟨hk.1, hk.2.2.1⟩)) (fun k hk hl => hm k (h1 k hk.1) hl), fun k hk => ⟨h1 k hk.1, hk.2⟩⟩
theorem iOut_next {α : Type} {d : Kd α} {e t : Nat} {kept : Row S53 → List α} {w0 wv w' : World} {g : Nat} {done : List (Row S53)} {row : Row S53} {ok ok1 : Nat → Prop} {v v' : Value} (h0 : ok g) (h1 : ∀ k, ok1 k → ok k) (hR : Kd.R d e wv w0.heap.size ok1 v (done.flatMap kept))
    (hg' : w'.heap[g]? = some (.cells #[v'] t (0, 0))) (hR' : Kd.R d e w' w0.heap.size (fun k => ok1 k ∨ wv.heap.size ≤ k) v' (done.flatMap kept ++ kept row)) (hb' : Below w0.heap.size w0 w') (hk' : Kept wv w' (fun k => k = g ∨ some k = v.ownBlock)) :
    IOut d e t kept w0.heap.size g (done ++ [row]) (fun k => ok k ∨ wv.heap.size ≤ k) w' ∧ Below w0.heap.size w0 w' ∧ Kept wv w' ok := by
  refine ⟨⟨.inl h0, v', fun k => ok1 k ∨ wv.heap.size ≤ k, hg', ?_, fun k hk => Or.imp (h1 k) id hk⟩, hb', hk'.mono ?_⟩
  · rw [List.flatMap_append]
    simpa using hR'
  · rintro k (rfl | hk)
    · exact h0
    · exact h1 k (hR.1 k hk.symm)
theorem done_le {L : Nat → List S53} {done rest : List (Row S53)} {row : Row S53} (hd : done ++ row :: rest = rowsOf cmpS L) : done.length + 1 ≤ total L ∧ row ∈ rowsOf cmpS L := by
  refine ⟨?_, by rw [← hd]; simp⟩
  have e1 := congrArg List.length hd
  rw [List.length_append, List.length_cons] at e1
  have e2 := rowsOf_length cmpS_self (total L) L (Nat.le_refl _)
  omega
theorem merge_visit (w0 : World) (l0 l1 l2 : List S53) (s0 : smallS l0 = true) (s1 : smallS l1 = true) (s2 : smallS l2 = true) (g : Nat) (hBg : w0.heap.size ≤ g) (done : List (Row S53)) (row : Row S53) (rest : List (Row S53)) (ok : Nat → Prop) (wv : World) (p q r : Option Addr)
    (hd : done ++ row :: rest = rowsOf cmpS (pick3 l0 l1 l2)) (hI : IOut k53 53 23 keptSlot w0.heap.size g done ok wv) (hb : Below w0.heap.size w0 wv) (hle : w0.heap.size ≤ wv.heap.size) (hp : Slot? wv p row.1) (hq : Slot? wv q row.2.1) (hr : Slot? wv r row.2.2) :
    Calls Try.prog 30 (#[.agg #[.pointer p, .pointer q, .pointer r]] ++ #[.pointer (some ⟨g, 0, none⟩)]) wv fun e w' => e = .returned (.tuple #[]) ∧ IOut k53 53 23 keptSlot w0.heap.size g (done ++ [row]) (fun k => ok k ∨ wv.heap.size ≤ k) w' ∧ Below w0.heap.size w0 w' ∧ Kept wv w' ok := by
  obtain ⟨h0, v, ok1, hg, hR, h1⟩ := hI
  obtain ⟨hdl, hm⟩ := done_le hd
  obtain ⟨m0, m1, m2⟩ := smallRow s0 s1 s2 hm
  have := smallS_len s0
  have := smallS_len s1
  have := smallS_len s2
  have ht : total (pick3 l0 l1 l2) = l0.length + l1.length + l2.length := rfl
  have hk := flat_le keptSlot keptSlot_le done
  have ha : total (altsRow row) = (altsO row.1).length + (altsO row.2.1).length + (altsO row.2.2).length := rfl
  refine (visitMerge_calls w0 wv w0.heap.size p q r row.1 row.2.1 row.2.2 hp hq hr g v (done.flatMap keptSlot) ok1 hg hR hb hle hBg (by omega) (by show total (altsRow row) * 48 ≤ _; omega)).mono ?_
  rintro e w' ⟨rfl, v', hg', hR', hb', hk'⟩
  exact ⟨rfl, iOut_next h0 h1 hR hg' hR' hb' hk'⟩
theorem changed_visit (w0 : World) (l0 l1 l2 : List S53) (s0 : smallS l0 = true) (s1 : smallS l1 = true) (s2 : smallS l2 = true) (g : Nat) (hBg : w0.heap.size ≤ g) (done : List (Row S53)) (row : Row S53) (rest : List (Row S53)) (ok : Nat → Prop) (wv : World) (p q r : Option Addr)
    (hd : done ++ row :: rest = rowsOf cmpS (pick3 l0 l1 l2)) (hI : IOut k36 36 32 keptC w0.heap.size g done ok wv) (hb : Below w0.heap.size w0 wv) (hle : w0.heap.size ≤ wv.heap.size) (hp : Slot? wv p row.1) (hq : Slot? wv q row.2.1) (hr : Slot? wv r row.2.2) :
    Calls Try.prog 36 (#[.agg #[.pointer p, .pointer q, .pointer r]] ++ #[.pointer (some ⟨g, 0, none⟩)]) wv fun e w' => e = .returned (.tuple #[]) ∧ IOut k36 36 32 keptC w0.heap.size g (done ++ [row]) (fun k => ok k ∨ wv.heap.size ≤ k) w' ∧ Below w0.heap.size w0 w' ∧ Kept wv w' ok := by
  obtain ⟨h0, v, ok1, hg, hR, h1⟩ := hI
  obtain ⟨hdl, hm⟩ := done_le hd
  obtain ⟨m0, m1, m2⟩ := smallRow s0 s1 s2 hm
  have := smallS_len s0
  have := smallS_len s1
  have := smallS_len s2
  have ht : total (pick3 l0 l1 l2) = l0.length + l1.length + l2.length := rfl
  have hk := flat_le keptC keptC_le done
  refine (visitChanged_calls w0 wv w0.heap.size p q r row.1 row.2.1 row.2.2 hp hq hr g v (done.flatMap keptC) ok1 hg hR hb hle hBg (by omega) m0 m1 m2).mono ?_
  rintro e w' ⟨rfl, v', hg', hR', hb', hk'⟩
  exact ⟨rfl, iOut_next h0 h1 hR hg' hR' hb' hk'⟩
theorem both_visit (w0 : World) (l0 l1 l2 : List S53) (s0 : smallS l0 = true) (s1 : smallS l1 = true) (s2 : smallS l2 = true) (g : Nat) (hBg : w0.heap.size ≤ g) (done : List (Row S53)) (row : Row S53) (rest : List (Row S53)) (ok : Nat → Prop) (wv : World) (p q r : Option Addr)
    (hd : done ++ row :: rest = rowsOf cmpS (pick3 l0 l1 l2)) (hI : IOut k36 36 32 keptB w0.heap.size g done ok wv) (hb : Below w0.heap.size w0 wv) (hle : w0.heap.size ≤ wv.heap.size) (hp : Slot? wv p row.1) (hq : Slot? wv q row.2.1) (hr : Slot? wv r row.2.2) :
    Calls Try.prog 39 (#[.agg #[.pointer p, .pointer q, .pointer r]] ++ #[.pointer (some ⟨g, 0, none⟩)]) wv fun e w' => e = .returned (.tuple #[]) ∧ IOut k36 36 32 keptB w0.heap.size g (done ++ [row]) (fun k => ok k ∨ wv.heap.size ≤ k) w' ∧ Below w0.heap.size w0 w' ∧ Kept wv w' ok := by
  obtain ⟨h0, v, ok1, hg, hR, h1⟩ := hI
  obtain ⟨hdl, hm⟩ := done_le hd
  obtain ⟨m0, m1, m2⟩ := smallRow s0 s1 s2 hm
  have := smallS_len s0
  have := smallS_len s1
  have := smallS_len s2
  have ht : total (pick3 l0 l1 l2) = l0.length + l1.length + l2.length := rfl
  have hk := flat_le keptB keptB_le done
  refine (visitBoth_calls w0 wv w0.heap.size p q r row.1 row.2.1 row.2.2 hp hq hr g v (done.flatMap keptB) ok1 hg hR hb hle hBg (by omega) m0 m1 m2).mono ?_
  rintro e w' ⟨rfl, v', hg', hR', hb', hk'⟩
  exact ⟨rfl, iOut_next h0 h1 hR hg' hR' hb' hk'⟩
theorem pick_rd {w : World} {l0 l1 l2 : List S53} {A0 A1 A2 : Option Addr} (h0 : Kd.C k53 w A0 l0.length l0) (h1 : Kd.C k53 w A1 l1.length l1) (h2 : Kd.C k53 w A2 l2.length l2) : ∀ i, i < 3 → Kd.C k53 w (pick3 A0 A1 A2 i) (pick3 l0 l1 l2 i).length (pick3 l0 l1 l2 i) := fun i hi => by
  rcases (by omega : i = 0 ∨ i = 1 ∨ i = 2) with rfl | rfl | rfl <;> assumption
theorem pick_cap {l0 l1 l2 : List S53} {c0 c1 c2 : Nat} (h0 : l0.length ≤ c0) (h1 : l1.length ≤ c1) (h2 : l2.length ≤ c2) : ∀ i, i < 3 → (pick3 l0 l1 l2 i).length ≤ pick3 c0 c1 c2 i := fun i hi => by
  rcases (by omega : i = 0 ∨ i = 1 ∨ i = 2) with rfl | rfl | rfl <;> assumption
def mergeP (l0 l1 l2 : List S53) : List S53 := (rowsOf cmpS (pick3 l0 l1 l2)).flatMap keptSlot
def changedP (l0 l1 : List S53) : List S36 := (rowsOf cmpS (pick3 l0 l1 [])).flatMap keptC
def bothP (l0 l1 l2 : List S53) : List S36 := (rowsOf cmpS (pick3 l0 l1 l2)).flatMap keptB
def merge3_Merge.f (l0 l1 l2 : List S53) : Option (List S53) := if smallS l0 && smallS l1 && smallS l2 then some (mergeP l0 l1 l2) else none
def merge3_Changed.f (l0 l1 : List S53) : Option (List S36) := if smallS l0 && smallS l1 then some (changedP l0 l1) else none
def merge3_Both.f (l0 l1 l2 : List S53) : Option (List S36) := if smallS l0 && smallS l1 && smallS l2 then some (bothP l0 l1 l2) else none
theorem some_of {α : Type} {b : Bool} {x r : α} (h : (if b = true then some x else none) = some r) : b = true ∧ x = r := by
  cases b with
  | true => exact ⟨rfl, by simpa using h⟩
  | false => simp at h
set_option maxRecDepth 100000 in
set_option maxHeartbeats 4000000 in
theorem merge3_Merge.calls (A0_0 : Option Addr) (c0_0 : Nat) (l0_0 : List S53) (A1_0 : Option Addr) (c1_0 : Nat) (l1_0 : List S53) (A2_0 : Option Addr) (c2_0 : Nat) (l2_0 : List S53) (r : List S53) (w : World) (hr0_0 : Kd.C k53 w A0_0 l0_0.length l0_0) (hc0_0 : l0_0.length ≤ c0_0) (hr1_0 : Kd.C k53 w A1_0 l1_0.length l1_0) (hc1_0 : l1_0.length ≤ c1_0) (hr2_0 : Kd.C k53 w A2_0 l2_0.length l2_0) (hc2_0 : l2_0.length ≤ c2_0) (h : merge3_Merge.f l0_0 l1_0 l2_0 = some r) :
    Calls Try.prog 9 #[.agg #[.slice A0_0 l0_0.length c0_0], .agg #[.slice A1_0 l1_0.length c1_0], .agg #[.slice A2_0 l2_0.length c2_0]] w fun e w' => ∃ v0_ : Value, e = .returned (.agg #[v0_]) ∧ Kd.R k53 53 w' w.heap.size (fun _ => True) v0_ r ∧ Below w.heap.size w w' := by
  obtain ⟨hs, hre⟩ := some_of h
  simp only [Bool.and_eq_true] at hs
  obtain ⟨⟨s0, s1⟩, s2⟩ := hs
  have HS := Aside0.mk (And.intro s0 (And.intro s1 s2))
  have HE := Aside0.mk hre
  have HRD := Aside0.mk (pick_rd hr0_0 hr1_0 hr2_0)
  have HCP := Aside0.mk (pick_cap hc0_0 hc1_0 hc2_0)
  clear h hre s0 s1 s2 hr0_0 hr1_0 hr2_0 hc0_0 hc1_0 hc2_0
  go_enter Try.func9, Try.ntmps9
  go_wp2_with fail
  have hbW : ∀ o1 o2 o3 o4 o5 : Obj, Below w.heap.size w (((((w.alloc o1).alloc o2).alloc o3).alloc o4).alloc o5) := fun o1 o2 o3 o4 o5 => by repeat (first | exact Below.refl _ _ | apply below_alloc)
  have hgW : ∀ o1 o2 o3 o4 : Obj, (((((w.alloc o1).alloc o2).alloc o3).alloc o4).alloc (.cells #[.slice none 0 0] 23)).heap[w.heap.size + 1 + 1 + 1 + 1]? = some (.cells #[.slice none 0 0] 23 (0, 0)) := fun o1 o2 o3 o4 => by
    have := blk_new ((((w.alloc o1).alloc o2).alloc o3).alloc o4) (.cells #[.slice none 0 0] 23)
    simpa only [World.size_alloc] using this
  have htW : ∀ o1 o2 o3 : Obj, (((((w.alloc o1).alloc o2).alloc o3).alloc (.cells #[.slice none 0 0] 25)).alloc (.cells #[.slice none 0 0] 23)).heap[w.heap.size + 1 + 1 + 1]? = some (.cells #[.slice none 0 0] 25 (0, 0)) := fun o1 o2 o3 => by
    have := blk_alloc (blk_new (((w.alloc o1).alloc o2).alloc o3) (.cells #[.slice none 0 0] 25)) (.cells #[.slice none 0 0] 23)
    simpa only [World.size_alloc] using this
  refine (rowsSlot_calls w _ (pick3 l0_0 l1_0 l2_0) (pick3 A0_0 A1_0 A2_0) (pick3 c0_0 c1_0 c2_0) 30 #[.pointer (some ⟨w.heap.size + 1 + 1 + 1 + 1, 0, none⟩)] (fun k => k = w.heap.size + 1 + 1 + 1 + 1) (IOut k53 53 23 keptSlot w.heap.size (w.heap.size + 1 + 1 + 1 + 1)) HRD.out HCP.out (hbW _ _ _ _ _) (hbW _ _ _ _ _).size (enters_ Try.func30 (by kernel_rfl) rfl)
    (fun done row rest ok wv p q r hd hI hb hle hp hq hr => merge_visit w l0_0 l1_0 l2_0 HS.out.1 HS.out.2.1 HS.out.2.2 _ (by omega) done row rest ok wv p q r hd hI hb hle hp hq hr) (fun _ _ _ _ h hm => iOut_move h hm)
    ⟨rfl, _, fun _ => False, hgW _ _ _ _, Kd.R_nil _ _ _ _ _, fun _ h => h.elim⟩).mono ?_
  rintro e w4 ⟨rfl, ⟨ok, h0, v, ok1, hg, hR, h1⟩, hB, hK⟩
  have htb := blk_kept (htW _ _ _) hK (by omega)
  replace hR : Kd.R k53 53 w4 w.heap.size ok1 v (mergeP l0_0 l1_0 l2_0) := hR
  rw [HE.out] at hR
  obtain ⟨Av, cv, rfl⟩ := Kd.R_slice hR
  have hc : w4.cell? ⟨w.heap.size + 1 + 1 + 1 + 1, 0, none⟩ = some (.slice Av r.length cv) := (blk_cell hg 0).trans rfl
  have ht : w4.cell? ⟨w.heap.size + 1 + 1 + 1, 0, none⟩ = some (.slice none 0 0) := (blk_cell htb 0).trans rfl
  have htf := blk_frozen htb 0
  have HR := Aside0.mk hR
  have HB := Aside0.mk hB
  have HT := Aside0.mk htb
  clear hR hB hK hg h1 h0 hbW hgW htW htb
  go_wp2_with fail
  have hres : (w4.setCell ⟨w.heap.size + 1 + 1 + 1, 0, none⟩ (.slice Av r.length cv)).cell? ⟨w.heap.size + 1 + 1 + 1, 0, none⟩ = some (.slice Av r.length cv) := (blk_cell (blk_put HT.out 0 (.slice Av r.length cv) rfl) 0).trans rfl
  refine bodyPost_ret (v := .agg #[.slice Av r.length cv]) (by simp [results, Try.results9, go_sem, hres]) rfl ⟨_, rfl, Kd.R_mono (Kd.R_set HR.out HT.out (by decide) 0 _) (fun _ _ => trivial), HB.out.setCell (by show w.heap.size ≤ w.heap.size + 1 + 1 + 1; omega) _⟩
set_option maxRecDepth 100000 in
set_option maxHeartbeats 4000000 in
theorem merge3_Changed.calls (A0_0 : Option Addr) (c0_0 : Nat) (l0_0 : List S53) (A1_0 : Option Addr) (c1_0 : Nat) (l1_0 : List S53) (r : List S36) (w : World) (hr0_0 : Kd.C k53 w A0_0 l0_0.length l0_0) (hc0_0 : l0_0.length ≤ c0_0) (hr1_0 : Kd.C k53 w A1_0 l1_0.length l1_0) (hc1_0 : l1_0.length ≤ c1_0) (h : merge3_Changed.f l0_0 l1_0 = some r) :
    Calls Try.prog 13 #[.agg #[.slice A0_0 l0_0.length c0_0], .agg #[.slice A1_0 l1_0.length c1_0]] w fun e w' => ∃ v0_ : Value, e = .returned v0_ ∧ Kd.R k36 36 w' w.heap.size (fun _ => True) v0_ r ∧ Below w.heap.size w w' := by
  obtain ⟨hs, hre⟩ := some_of h
  simp only [Bool.and_eq_true] at hs
  obtain ⟨s0, s1⟩ := hs
  have HS : Aside0 (smallS l0_0 = true ∧ smallS l1_0 = true ∧ smallS [] = true) := ⟨⟨s0, s1, rfl⟩⟩
  have HE := Aside0.mk hre
  have HRD := Aside0.mk (pick_rd hr0_0 hr1_0 (Kd.C_nil _ _))
  have HCP := Aside0.mk (pick_cap (l2 := []) (c2 := 0) hc0_0 hc1_0 (Nat.le_refl 0))
  clear h hre s0 s1 hr0_0 hc0_0 hr1_0 hc1_0
  go_enter Try.func13, Try.ntmps13
  go_wp2_with fail
  have hbW : ∀ o1 o2 o3 : Obj, Below w.heap.size w (((w.alloc o1).alloc o2).alloc o3) := fun o1 o2 o3 => by repeat (first | exact Below.refl _ _ | apply below_alloc)
  have hgW : ∀ o1 o2 : Obj, (((w.alloc o1).alloc o2).alloc (.cells #[.slice none 0 0] 32)).heap[w.heap.size + 1 + 1]? = some (.cells #[.slice none 0 0] 32 (0, 0)) := fun o1 o2 => by
    have := blk_new ((w.alloc o1).alloc o2) (.cells #[.slice none 0 0] 32)
    simpa only [World.size_alloc] using this
  refine (rowsSlot_calls w _ (pick3 l0_0 l1_0 []) (pick3 A0_0 A1_0 none) (pick3 c0_0 c1_0 0) 36 #[.pointer (some ⟨w.heap.size + 1 + 1, 0, none⟩)] (fun k => k = w.heap.size + 1 + 1) (IOut k36 36 32 keptC w.heap.size (w.heap.size + 1 + 1)) HRD.out HCP.out (hbW _ _ _) (hbW _ _ _).size (enters_ Try.func36 (by kernel_rfl) rfl)
    (fun done row rest ok wv p q r hd hI hb hle hp hq hr => changed_visit w l0_0 l1_0 [] HS.out.1 HS.out.2.1 HS.out.2.2 _ (by omega) done row rest ok wv p q r hd hI hb hle hp hq hr) (fun _ _ _ _ h hm => iOut_move h hm)
    ⟨rfl, _, fun _ => False, hgW _ _, Kd.R_nil _ _ _ _ _, fun _ h => h.elim⟩).mono ?_
  rintro e w4 ⟨rfl, ⟨ok, h0, v, ok1, hg, hR, h1⟩, hB, hK⟩
  replace hR : Kd.R k36 36 w4 w.heap.size ok1 v (changedP l0_0 l1_0) := hR
  rw [HE.out] at hR
  obtain ⟨Av, cv, rfl⟩ := Kd.R_slice hR
  have hc : w4.cell? ⟨w.heap.size + 1 + 1, 0, none⟩ = some (.slice Av r.length cv) := (blk_cell hg 0).trans rfl
  have HR := Aside0.mk hR
  have HB := Aside0.mk hB
  clear hR hB hK hg h1 h0 hbW hgW
  go_wp2_with fail
  go_ret
  exact ⟨.slice Av r.length cv, rfl, Kd.R_mono HR.out (fun _ _ => trivial), HB.out⟩
set_option maxRecDepth 100000 in
set_option maxHeartbeats 4000000 in
theorem merge3_Both.calls (A0_0 : Option Addr) (c0_0 : Nat) (l0_0 : List S53) (A1_0 : Option Addr) (c1_0 : Nat) (l1_0 : List S53) (A2_0 : Option Addr) (c2_0 : Nat) (l2_0 : List S53) (r : List S36) (w : World) (hr0_0 : Kd.C k53 w A0_0 l0_0.length l0_0) (hc0_0 : l0_0.length ≤ c0_0) (hr1_0 : Kd.C k53 w A1_0 l1_0.length l1_0) (hc1_0 : l1_0.length ≤ c1_0) (hr2_0 : Kd.C k53 w A2_0 l2_0.length l2_0) (hc2_0 : l2_0.length ≤ c2_0) (h : merge3_Both.f l0_0 l1_0 l2_0 = some r) :
    Calls Try.prog 15 #[.agg #[.slice A0_0 l0_0.length c0_0], .agg #[.slice A1_0 l1_0.length c1_0], .agg #[.slice A2_0 l2_0.length c2_0]] w fun e w' => ∃ v0_ : Value, e = .returned v0_ ∧ Kd.R k36 36 w' w.heap.size (fun _ => True) v0_ r ∧ Below w.heap.size w w' := by
  obtain ⟨hs, hre⟩ := some_of h
  simp only [Bool.and_eq_true] at hs
  obtain ⟨⟨s0, s1⟩, s2⟩ := hs
  have HS : Aside0 (smallS l0_0 = true ∧ smallS l1_0 = true ∧ smallS l2_0 = true) := ⟨⟨s0, s1, s2⟩⟩
  have HE := Aside0.mk hre
  have HRD := Aside0.mk (pick_rd hr0_0 hr1_0 hr2_0)
  have HCP := Aside0.mk (pick_cap hc0_0 hc1_0 hc2_0)
  clear h hre s0 s1 s2 hr0_0 hc0_0 hr1_0 hc1_0 hr2_0 hc2_0
  go_enter Try.func15, Try.ntmps15
  go_wp2_with fail
  have hbW : ∀ o1 o2 o3 o4 : Obj, Below w.heap.size w ((((w.alloc o1).alloc o2).alloc o3).alloc o4) := fun o1 o2 o3 o4 => by repeat (first | exact Below.refl _ _ | apply below_alloc)
  have hgW : ∀ o1 o2 o3 : Obj, ((((w.alloc o1).alloc o2).alloc o3).alloc (.cells #[.slice none 0 0] 32)).heap[w.heap.size + 1 + 1 + 1]? = some (.cells #[.slice none 0 0] 32 (0, 0)) := fun o1 o2 o3 => by
    have := blk_new (((w.alloc o1).alloc o2).alloc o3) (.cells #[.slice none 0 0] 32)
    simpa only [World.size_alloc] using this
  refine (rowsSlot_calls w _ (pick3 l0_0 l1_0 l2_0) (pick3 A0_0 A1_0 A2_0) (pick3 c0_0 c1_0 c2_0) 39 #[.pointer (some ⟨w.heap.size + 1 + 1 + 1, 0, none⟩)] (fun k => k = w.heap.size + 1 + 1 + 1) (IOut k36 36 32 keptB w.heap.size (w.heap.size + 1 + 1 + 1)) HRD.out HCP.out (hbW _ _ _ _) (hbW _ _ _ _).size (enters_ Try.func39 (by kernel_rfl) rfl)
    (fun done row rest ok wv p q r hd hI hb hle hp hq hr => both_visit w l0_0 l1_0 l2_0 HS.out.1 HS.out.2.1 HS.out.2.2 _ (by omega) done row rest ok wv p q r hd hI hb hle hp hq hr) (fun _ _ _ _ h hm => iOut_move h hm)
    ⟨rfl, _, fun _ => False, hgW _ _ _, Kd.R_nil _ _ _ _ _, fun _ h => h.elim⟩).mono ?_
  rintro e w4 ⟨rfl, ⟨ok, h0, v, ok1, hg, hR, h1⟩, hB, hK⟩
  replace hR : Kd.R k36 36 w4 w.heap.size ok1 v (bothP l0_0 l1_0 l2_0) := hR
  rw [HE.out] at hR
  obtain ⟨Av, cv, rfl⟩ := Kd.R_slice hR
  have hc : w4.cell? ⟨w.heap.size + 1 + 1 + 1, 0, none⟩ = some (.slice Av r.length cv) := (blk_cell hg 0).trans rfl
  have HR := Aside0.mk hR
  have HB := Aside0.mk hB
  clear hR hB hK hg h1 h0 hbW hgW
  go_wp2_with fail
  go_ret
  exact ⟨.slice Av r.length cv, rfl, Kd.R_mono HR.out (fun _ _ => trivial), HB.out⟩
end Go.Proofs.Ytcecekmhikmkhaa.M
