/- One command, noted or led: the resolver's memory goes as noteP and leadP say. -/
import Derived.Test.YtgennlcbmepchaaExtClone
import Derived.Test.YtgennlcbmepchaaExtSpec
namespace Go.Proofs.Ytgennlcbmepchaa.PAll
open Go.RowKit Go.Maps Go.WideMaps Go.Proofs.YtgennlcbmepchaaW.PrintWords Go.Proofs.YtgennlcbmepchaaW.PrintLast Go.Proofs.YtgennlcbmepchaaW.PrintMore

/-- The labels, as the model's maps have them. -/
def LabD (lb : List (ByteArray × Int)) : DataW Unit := lb.foldl (fun D p => D.put (.string p.1.data.toList) (.lit (.int .i64 p.2))) (.map [])
theorem LabD_snoc (lb : List (ByteArray × Int)) (p : ByteArray × Int) : LabD (lb ++ [p]) = (LabD lb).put (.string p.1.data.toList) (.lit (.int .i64 p.2)) := by simp [LabD, List.foldl_append]
theorem snoc_ind {α : Type} {P : List α → Prop} (h0 : P []) (h1 : ∀ l x, P l → P (l ++ [x])) : ∀ l, P l := by
  intro l
  have : ∀ r : List α, P r.reverse := by
    intro r
    induction r with
    | nil => exact h0
    | cons x r ih => rw [List.reverse_cons]; exact h1 _ _ ih
  have := this l.reverse
  rwa [List.reverse_reverse] at this
theorem isMap_LabD (lb : List (ByteArray × Int)) : Maps.IsMap (LabD lb) := by
  refine snoc_ind (P := fun lb => Maps.IsMap (LabD lb)) ?_ ?_ lb
  · exact Maps.isMap_empty
  · intro l p h; rw [LabD_snoc]; exact h.put _ _
theorem lit_ne {a b : ByteArray} (h : a ≠ b) : Lit.string a.data.toList ≠ Lit.string b.data.toList := by
  intro e
  injection e with e
  apply h
  cases a; cases b
  simp only at e
  congr 1
  exact Array.toList_inj.1 e
theorem keyLit (s : ByteArray) : WideAt.IsKeyLit (Lit.string s.data.toList) := by simp [WideAt.IsKeyLit]
theorem has_LabD (lb : List (ByteArray × Int)) (s : ByteArray) : Maps.has (LabD lb) (.string s.data.toList) = hasLab lb s := by
  refine snoc_ind (P := fun lb => Maps.has (LabD lb) (.string s.data.toList) = hasLab lb s) ?_ ?_ lb
  · rfl
  · intro l p h
    rw [LabD_snoc]
    by_cases e : p.1 = s
    · subst e
      rw [Maps.has_put_same (isMap_LabD l) (keyLit _)]
      simp [hasLab]
    · rw [Maps.has_put_other (lit_ne (Ne.symm e)), h]
      simp [hasLab, e]
theorem atKey_LabD (lb : List (ByteArray × Int)) (s : ByteArray) : (LabD lb).atKey (.string s.data.toList) (.lit (.int .i64 0)) = .lit (.int .i64 (getLab lb s)) := by
  refine snoc_ind (P := fun lb => (LabD lb).atKey (.string s.data.toList) (.lit (.int .i64 0)) = .lit (.int .i64 (getLab lb s))) ?_ ?_ lb
  · rfl
  · intro l p h
    rw [LabD_snoc]
    by_cases e : p.1 = s
    · subst e
      rw [Maps.atKey_put_same (isMap_LabD l) (keyLit _)]
      simp [getLab, List.foldl_append]
    · rw [Maps.atKey_put_other (lit_ne (Ne.symm e)), h]
      simp [getLab, List.foldl_append, e]

/-- Commands, and the cells of their row: what they lead to lies in what w1 had. -/
def RowsOf (P0 : Nat → Prop) (w0 w1 : World) (gb : Nat) (xs : List S32) (rows : List (List Value)) : Prop :=
  rows.length = xs.length ∧ ∀ (j : Nat) (x : S32) (c : List Value), xs[j]? = some x → rows[j]? = some c → Kd.FK k32 w1 (fun k => (P0 k ∨ w0.heap.size ≤ k) ∧ k ≠ gb) x c

theorem FK_cells {W : World} {ok : Nat → Prop} {x : S32} {c : List Value} (h : Kd.FK k32 W ok x c) : c[13]? = some (.int .u8 x.f3) ∧ c[15]? = some (.string x.f5) ∧ c[26]? = some (.int .i64 x.f15) ∧ c[27]? = some (.int .i64 x.f16) ∧ c.length = 28 ∧ ∀ v ∈ c, v.oneCell' = true := by
  refine ⟨?_, ?_, ?_, ?_, k32.K_len (Kd.FK_now h), k32.K_one (Kd.FK_now h)⟩ <;> (obtain ⟨A2, c2, A8, c8, A14, c14, A17, c17, A21, c21, A25, c25, rfl, _⟩ := k32_openF h; rfl)
theorem FK_setJ {W : World} {ok : Nat → Prop} {x : S32} {c : List Value} (h : Kd.FK k32 W ok x c) (v : Int) : Kd.FK k32 W ok (setJ x v) (c.set 26 (.int .i64 v)) := by
  obtain ⟨A2, c2, A8, c8, A14, c14, A17, c17, A21, c21, A25, c25, rfl, l2, g2, l8, g8, l14, g14, l17, g17, l21, g21, l25, g25⟩ := k32_openF h
  exact k32_mkF W ok (setJ x v) l2 g2 l8 g8 l14 g14 l17 g17 l21 g21 l25 g25
theorem RowsOf.put {P0 : Nat → Prop} {w0 w1 : World} {gb : Nat} {xs : List S32} {rows : List (List Value)} (h : RowsOf P0 w0 w1 gb xs rows) {j : Nat} {x : S32} {c : List Value} (hx : xs[j]? = some x) (hc : rows[j]? = some c) (v : Int) : RowsOf P0 w0 w1 gb (xs.set j (setJ x v)) (rows.set j (c.set 26 (.int .i64 v))) := by
  refine ⟨by simp [h.1], fun i y d hy hd => ?_⟩
  by_cases e : i = j
  · subst e
    have h1 : i < xs.length := (List.getElem?_eq_some_iff.1 hx).1
    have h2 : i < rows.length := (List.getElem?_eq_some_iff.1 hc).1
    have e1 : setJ x v = y := by simpa [h1] using hy
    have e2 : c.set 26 (.int .i64 v) = d := by simpa [h2] using hd
    subst e1 e2
    exact FK_setJ (h.2 i x c hx hc) v
  · rw [List.getElem?_set_ne (Ne.symm e)] at hy hd
    exact h.2 i y d hy hd
theorem at32_eq {xs : List S32} {i : Nat} (h : i < xs.length) : xs[i]? = some (at32 xs i) := by
  unfold at32
  rw [List.getD_eq_getElem?_getD, List.getElem?_eq_getElem h]
  rfl

/-- The resolver's memory is at st. -/
structure Rel (P0 : Nat → Prop) (w0 w1 : World) (gb g bm n cap : Nat) (st : RSt) (w : World) : Prop where
  ex : ∃ rows, Mem w0 w1 gb g bm n cap rows (st.op.map fun q : Nat => (q : Int)) st.lb.length (LabD st.lb) w ∧ RowsOf P0 w0 w1 gb st.xs rows
  len : st.xs.length = n
  ops : ∀ q ∈ st.op, q < n
  lab : ∀ x ∈ st.xs, x.f5.size ≤ maxLen
section
variable {P0 : Nat → Prop} {w0 w1 w : World} {gb g bm n cap : Nat} {st : RSt}
theorem Rel.bel (h : Rel P0 w0 w1 gb g bm n cap st w) : Below w0.heap.size w0 w := by
  obtain ⟨rows, hM, _⟩ := h.ex
  exact hM.bel
theorem Rel.step (h : Rel P0 w0 w1 gb g bm n cap st w) {w' : World} (hb : Below w.heap.size w w') : Rel P0 w0 w1 gb g bm n cap st w' := by
  obtain ⟨rows, hM, hR⟩ := h.ex
  exact ⟨⟨rows, hM.step hb, hR⟩, h.len, h.ops, h.lab⟩
theorem lab_set {xs : List S32} {i : Nat} {v : Int} (h : ∀ x ∈ xs, x.f5.size ≤ maxLen) (hi : i < xs.length) : ∀ x ∈ xs.set i (setJ (at32 xs i) v), x.f5.size ≤ maxLen := by
  intro x hx
  rcases List.mem_or_eq_of_mem_set hx with h1 | h1
  · exact h x h1
  · rw [h1]
    exact h (at32 xs i) (List.mem_of_getElem? (at32_eq hi))
/-- What a call of note comes to. -/
def NotePost (P0 : Nat → Prop) (w0 w1 w : World) (gb g bm n cap : Nat) (r : Except Int RSt) (e : Ending) (w' : World) : Prop :=
  match r with
  | .error c => e = .returned (.int .u16 c) ∧ Below w.heap.size w w'
  | .ok st => e = .returned (.int .u16 0) ∧ Rel P0 w0 w1 gb g bm n cap st w'

theorem note_step (h : Rel P0 w0 w1 gb g bm n cap st w) {i : Nat} (hi : i < n) (hop : st.op.length ≤ i) (hlb : st.lb.length ≤ i) (hn : n < 475464487686) :
    Calls Try.prog 12 #[.pointer (some ⟨g, 0, none⟩), .int .i64 i] w fun e w' => NotePost P0 w0 w1 w gb g bm n cap (noteP st i) e w' := by
  obtain ⟨rows, hM, hR⟩ := h.ex
  have hx := at32_eq (xs := st.xs) (i := i) (by rw [h.len]; exact hi)
  obtain ⟨c, hc, hcl, hco, _⟩ := hM.elem hi
  obtain ⟨h13, h15, h26, _, _, _⟩ := FK_cells (hR.2 i _ c hx hc)
  have hil : i < st.xs.length := by rw [h.len]; exact hi
  have hsz := h.lab _ (List.mem_of_getElem? hx)
  by_cases e1 : (at32 st.xs i).f3 = 123
  · rw [e1] at h13
    refine (note_open hM hi hc h13 h15 (by simp; omega)).mono ?_
    rintro e w' ⟨rfl, hM'⟩
    simp only [noteP, e1, if_true]
    exact ⟨rfl, ⟨_, by simpa using hM', hR.put hx hc (-1)⟩, by simp [h.len], by intro q hq; simp at hq; rcases hq with hq | rfl; exact h.ops q hq; exact hi, lab_set h.lab hil⟩
  · by_cases e2 : (at32 st.xs i).f3 = 125
    · rw [e2] at h13
      rcases List.eq_nil_or_concat st.op with e3 | ⟨op', q, e3⟩
      · refine (note_bad hM hi hc h13 h15 (by rw [e3]; rfl)).mono ?_
        rintro e w' ⟨rfl, hb⟩
        simp only [noteP, e2, e3, List.getLast?_nil]
        exact ⟨rfl, hb⟩
      · have hq : q < n := h.ops q (by rw [e3]; simp)
        have hxq := at32_eq (xs := st.xs) (i := q) (by rw [h.len]; exact hq)
        obtain ⟨cq, hcq, _⟩ := hM.elem hq
        refine (note_close hM hi hc h13 h15 (op' := op'.map fun q : Nat => (q : Int)) (by (have : op'.length < st.op.length := by rw [e3]; simp); simp; omega) (q := q) (by rw [e3]; simp) hcq).mono ?_
        rintro e w' ⟨rfl, hM'⟩
        simp only [noteP, e2, e3, List.concat_eq_append, List.getLast?_append, List.getLast?_singleton, Option.some_or, List.dropLast_concat]
        exact ⟨rfl, ⟨_, hM', hR.put hxq hcq i⟩, by simp [h.len], fun r hr => h.ops r (by rw [e3]; simp [hr]), lab_set h.lab (by rw [h.len]; exact hq)⟩
    · by_cases e3 : (at32 st.xs i).f3 = 58
      · rw [e3] at h13
        by_cases e4 : hasLab st.lb (at32 st.xs i).f5 = true
        · refine (note_dup hM hi hc h13 h15 hsz (by rw [has_LabD]; exact e4)).mono ?_
          rintro e w' ⟨rfl, hb⟩
          simp only [noteP, e3, e4]
          exact ⟨rfl, hb⟩
        · refine (note_new hM hi hc h13 h15 hsz (by rw [has_LabD]; simpa using e4) (by unfold maxLen; omega) (WalkArith.wf_i64 (by omega))).mono ?_
          rintro e w' ⟨rfl, hM'⟩
          simp only [noteP, e3, e4]
          exact ⟨rfl, ⟨_, by rw [LabD_snoc]; simpa using hM', hR⟩, h.len, h.ops, h.lab⟩
      · refine (note_other hM hi hc h13 h15 (beq_eq_false_iff_ne.2 e1) (beq_eq_false_iff_ne.2 e2) (beq_eq_false_iff_ne.2 e3)).mono ?_
        rintro e w' ⟨rfl, hM'⟩
        simp only [noteP, e1, e2, e3, if_false]
        exact ⟨rfl, ⟨_, hM', hR⟩, h.len, h.ops, h.lab⟩

theorem lead_step (h : Rel P0 w0 w1 gb g bm n cap st w) {i : Nat} (hi : i < n) :
    Calls Try.prog 13 #[.pointer (some ⟨g, 0, none⟩), .int .i64 i] w fun e w' => NotePost P0 w0 w1 w gb g bm n cap ((leadP st.lb st.xs i).map fun xs => ⟨xs, st.op, st.lb⟩) e w' := by
  obtain ⟨rows, hM, hR⟩ := h.ex
  have hx := at32_eq (xs := st.xs) (i := i) (by rw [h.len]; exact hi)
  obtain ⟨c, hc, hcl, hco, _⟩ := hM.elem hi
  obtain ⟨h13, h15, h26, _, _, _⟩ := FK_cells (hR.2 i _ c hx hc)
  have hil : i < st.xs.length := by rw [h.len]; exact hi
  have hsz := h.lab _ (List.mem_of_getElem? hx)
  by_cases e1 : (at32 st.xs i).f3 = 123
  · rw [e1] at h13
    by_cases e2 : (at32 st.xs i).f15 < 0
    · refine (lead_bad hM hi hc h13 h26 e2).mono ?_
      rintro e w' ⟨rfl, hb⟩
      simp only [leadP, e1, e2, if_true, Except.map]
      exact ⟨rfl, hb⟩
    · refine (lead_open hM hi hc h13 h26 (by omega)).mono ?_
      rintro e w' ⟨rfl, hM'⟩
      simp only [leadP, e1, e2, if_true, if_false, Except.map]
      exact ⟨rfl, ⟨_, hM', hR⟩, h.len, h.ops, h.lab⟩
  · by_cases e2 : (at32 st.xs i).f3 = 98 ∨ (at32 st.xs i).f3 = 116
    · by_cases e3 : (at32 st.xs i).f5.toList.isEmpty = true
      · have : Calls Try.prog 13 #[.pointer (some ⟨g, 0, none⟩), .int .i64 i] w fun e w' => e = .returned (.int .u16 0) ∧ Mem w0 w1 gb g bm n cap (rows.set i (c.set 26 (.int .i64 n))) (st.op.map fun q : Nat => (q : Int)) st.lb.length (LabD st.lb) w' := by
          rcases e2 with e2 | e2 <;> rw [e2] at h13
          · exact lead_end98 hM hi hc h13 h15 hsz e3
          · exact lead_end116 hM hi hc h13 h15 hsz e3
        refine this.mono ?_
        rintro e w' ⟨rfl, hM'⟩
        simp only [leadP, e1, e2, e3, if_true, if_false, Except.map, h.len]
        exact ⟨rfl, ⟨_, hM', hR.put hx hc n⟩, by simp [h.len], h.ops, lab_set h.lab hil⟩
      · have e3' : (at32 st.xs i).f5.toList.isEmpty = false := by simpa using e3
        by_cases e4 : hasLab st.lb (at32 st.xs i).f5 = true
        · have : Calls Try.prog 13 #[.pointer (some ⟨g, 0, none⟩), .int .i64 i] w fun e w' => e = .returned (.int .u16 0) ∧ Mem w0 w1 gb g bm n cap (rows.set i (c.set 26 (.int .i64 (getLab st.lb (at32 st.xs i).f5)))) (st.op.map fun q : Nat => (q : Int)) st.lb.length (LabD st.lb) w' := by
            rcases e2 with e2 | e2 <;> rw [e2] at h13
            · exact lead_to98 hM hi hc h13 h15 hsz e3' (by rw [has_LabD]; exact e4) (atKey_LabD _ _)
            · exact lead_to116 hM hi hc h13 h15 hsz e3' (by rw [has_LabD]; exact e4) (atKey_LabD _ _)
          refine this.mono ?_
          rintro e w' ⟨rfl, hM'⟩
          simp only [leadP, e1, e2, e3', e4, if_true, if_false, Except.map, Bool.false_eq_true]
          exact ⟨rfl, ⟨_, hM', hR.put hx hc _⟩, by simp [h.len], h.ops, lab_set h.lab hil⟩
        · have : Calls Try.prog 13 #[.pointer (some ⟨g, 0, none⟩), .int .i64 i] w fun e w' => e = .returned (.int .u16 50) ∧ Below w.heap.size w w' := by
            rcases e2 with e2 | e2 <;> rw [e2] at h13
            · exact lead_not98 hM hi hc h13 h15 hsz e3' (by rw [has_LabD]; simpa using e4)
            · exact lead_not116 hM hi hc h13 h15 hsz e3' (by rw [has_LabD]; simpa using e4)
          refine this.mono ?_
          rintro e w' ⟨rfl, hb⟩
          simp only [leadP, e1, e2, e3', e4, if_true, if_false, Except.map, Bool.false_eq_true]
          exact ⟨rfl, hb⟩
    · refine (lead_other hM hi hc h13 (beq_eq_false_iff_ne.2 e1) (beq_eq_false_iff_ne.2 (fun e => e2 (.inl e))) (beq_eq_false_iff_ne.2 (fun e => e2 (.inr e)))).mono ?_
      rintro e w' ⟨rfl, hM'⟩
      simp only [leadP, e1, e2, if_false, Except.map]
      exact ⟨rfl, ⟨_, hM', hR⟩, h.len, h.ops, h.lab⟩
end
end Go.Proofs.Ytgennlcbmepchaa.PAll
