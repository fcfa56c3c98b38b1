/- Arguments of any kind of slices and structs, opened: what can be read as data is read by a kind; each slice inside takes no more bytes than the form's reach. -/
import Derived.Test.YtfgccmgfkfhfcaaPAllx0
import Derived.Deep.Slices
import Derived.Deep.Fields
import Derived.ChangeSame
import GoSem.ClaimJoined
import Derived.Test.YtfgccmgfkfhfcaaRows
namespace Go.Proofs.Ytfgccmgfkfhfcaa.PAll
open Go.RowKit Go.ChangeShapes Go.WideShapes Go.Deep Go.Proofs.YtfgccmgfkfhfcaaW.PrintWords Go.Proofs.YtfgccmgfkfhfcaaW.PrintLast Go.Proofs.YtfgccmgfkfhfcaaW.PrintMore
set_option linter.unusedVariables false
set_option linter.unusedSimpArgs false
section
variable {P : Program} {α β : Type}
/-- What reads as data at this type is of this kind. -/
theorem bulk_one {H : Type} (d : DataW H) : 1 ≤ Rows.uptoBulk d := by
  cases d with
  | lit l => cases l <;> simp [Rows.uptoBulk]
  | _ => simp [Rows.uptoBulk]
theorem bulk_all {H : Type} (l : List (DataW H)) : Rows.uptoBulkAll l = (l.map Rows.uptoBulk).sum := by
  induction l with
  | nil => rfl
  | cons d r ih => simp [Rows.uptoBulkAll, ih]
def Reads (P : Program) (d : Kd α) (t : TypeId) (wf : α → Prop) (m : α → Nat) : Prop :=
  ∀ (H : Type) (enc : TypeId × Value → H) (w : World) (base : Nat) (spare : Nat → Bool) (held : Bool) (fuel : Nat) (cs : List Value) (x : DataW H × List MemPlace),
    DataW.trod enc P w base spare held fuel t cs = some x → (x.1.weights P t).all (· ≤ reachBytes) = true → ∃ a, d.K w a cs ∧ wf a ∧ m a ≤ Rows.uptoBulk x.1
theorem reads_int {k : IntKind} {t : TypeId} (hu : P.underlying t = some (.int k)) : Reads P (Kd.int k) t (fun n => (Lit.int k n).wf = true) (fun _ => 1) := by
  intro H enc w base spare held fuel cs x h hw
  obtain ⟨n, rfl, _, hn⟩ := DataW.trod_int hu h
  exact ⟨n, rfl, hn, bulk_one _⟩
theorem all_weights {H : Type} {p : Nat → Bool} {e : TypeId} : ∀ {l : List (DataW H)} {d : DataW H}, (DataW.weightsAll P e l).all p = true → d ∈ l → (d.weights P e).all p = true
  | [], _, _, h => by cases h
  | x :: r, d, h, hd => by
    simp only [DataW.weightsAll, List.all_append, Bool.and_eq_true] at h
    rcases List.mem_cons.1 hd with rfl | hd
    · exact h.1
    · exact all_weights h.2 hd
theorem each_weights {H : Type} {p : Nat → Bool} : ∀ {ts : List TypeId} {l : List (DataW H)} {j : Nat} {t : TypeId} {d : DataW H}, (DataW.weightsEach P ts l).all p = true → ts[j]? = some t → l[j]? = some d → (d.weights P t).all p = true
  | [], _, j, _, _, _, h, _ => by simp at h
  | _ :: _, [], j, _, _, _, _, h => by simp at h
  | t :: ts, x :: l, 0, _, _, h, h1, h2 => by
    simp only [DataW.weightsEach, List.all_append, Bool.and_eq_true] at h
    cases h1; cases h2
    exact h.1
  | t :: ts, x :: l, j + 1, _, _, h, h1, h2 => by
    simp only [DataW.weightsEach, List.all_append, Bool.and_eq_true] at h
    exact each_weights h.2 (by simpa using h1) (by simpa using h2)
theorem sum_le (l : List Nat) (f g : Nat → Nat) (h : ∀ i ∈ l, f i ≤ g i) : (l.map f).sum ≤ (l.map g).sum := by
  induction l with
  | nil => exact Nat.le_refl _
  | cons x r ih => simp only [List.map_cons, List.sum_cons]; exact Nat.add_le_add (h x (by simp)) (ih (fun i hi => h i (by simp [hi])))
theorem reads_slice {d : Kd α} {wf : α → Prop} {mm : α → Nat} {t e : TypeId} [Inhabited α] (hu : P.underlying t = some (.slice e)) (hc : P.cellsOf e = d.sz) (hr : Reads P d e wf mm) :
    Reads P (Kd.slice e d) t (fun xs => xs.length * P.bytesOf e ≤ reachBytes ∧ ∀ x ∈ xs, wf x) (fun xs => (xs.map mm).sum) := by
  intro H enc w base spare held fuel cs x h hw
  rcases open_slice hu h with ⟨rfl, rfl⟩ | ⟨a, len, cap, m, n, D, Pl, rfl, hb, hl, hcm, hm, rfl, hi⟩
  · exact ⟨[], ⟨none, 0, rfl, Nat.le_refl _, rfl, by simp, fun h => by simp at h⟩, ⟨by simp, fun x hx => by cases hx⟩, Nat.zero_le _⟩
  · have hlm : len ≤ m := by rw [hm]; split <;> omega
    simp only [DataW.weights, hu, List.all_cons, List.all_append, Bool.and_eq_true, List.length_map, List.length_range, decide_eq_true_eq] at hw
    obtain ⟨hw1, hw2, _⟩ := hw
    have key : ∀ i, i < len → ∃ (a' : α), (∃ cs', cs'.length = d.sz ∧ d.K w a' cs' ∧ ∀ j u, cs'[j]? = some u → w.cell? (a.add (i * d.sz + j)) = some u) ∧ wf a' ∧ mm a' ≤ Rows.uptoBulk (D i) := by
      intro i hil
      obtain ⟨cs', hcs, ht⟩ := hi i (by omega)
      obtain ⟨_, hlen, hat⟩ := World.cells?_some hcs
      obtain ⟨a', hk, hwf, hmb⟩ := hr H enc w base spare held n cs' _ ht (all_weights hw2 (List.mem_map.2 ⟨i, List.mem_range.2 hil, rfl⟩))
      refine ⟨a', ⟨cs', by rw [hlen, hc], hk, fun j u hj => ?_⟩, hwf, hmb⟩
      have hjl : j < P.cellsOf e := by rw [← hlen]; exact (List.getElem?_eq_some_iff.1 hj).1
      have := hat j hjl
      rw [hj, hc, Go.Deep.add_add] at this
      exact this
    obtain ⟨f, hf⟩ := choose_lt key
    have hlf : ((List.range len).map f).length = len := by simp
    refine ⟨(List.range len).map f, ⟨some a, cap, by rw [hlf], by rw [hlf]; exact hl, rfl, by rw [hlf]; unfold maxLen at hcm; omega, fun _ => ⟨a, rfl, fun j p hj => ?_⟩⟩, ⟨?_, ?_⟩, ?_⟩
    · have hjl : j < len := by have := (List.getElem?_eq_some_iff.1 hj).1; rw [hlf] at this; exact this
      have hp : p = f j := by simpa [hjl] using hj.symm
      subst hp
      obtain ⟨cs', h1, h2, h3⟩ := (hf j hjl).1
      exact ⟨cs', h1, h2, h3⟩
    · rw [hlf]; exact Nat.le_trans (Nat.mul_le_mul_right _ (by omega)) hw1
    · intro x hx
      obtain ⟨i, hi, rfl⟩ := List.mem_map.1 hx
      exact (hf i (List.mem_range.1 hi)).2.1
    · simp only [Rows.uptoBulk, bulk_all, List.map_map]
      refine Nat.le_trans (sum_le (List.range len) _ _ (fun i hi => ?_)) (Nat.le_trans (Nat.le_add_right _ _) (Nat.le_add_right _ _))
      exact (hf i (List.mem_range.1 hi)).2.2
theorem reads_iso {d : Kd α} {wf : α → Prop} {mm : α → Nat} {t : TypeId} (h : Reads P d t wf mm) (f : β → α) (g : α → β) (hfg : ∀ a, f (g a) = a) : Reads P (Kd.iso d f) t (fun b => wf (f b)) (fun b => mm (f b)) := by
  intro H enc w base spare held fuel cs x ht hw
  obtain ⟨a, hk, ha, hm⟩ := h H enc w base spare held fuel cs x ht hw
  exact ⟨g a, by show d.K w (f (g a)) cs; rw [hfg]; exact hk, by show wf (f (g a)); rw [hfg]; exact ha, by show mm (f (g a)) ≤ _; rw [hfg]; exact hm⟩
/-- The fields of a struct, from one on. -/
def ReadsL (P : Program) (d : Kd α) (fs : List Field) (off : Nat) (wf : α → Prop) (mm : α → Nat) : Prop :=
  ∀ (H : Type) (enc : TypeId × Value → H) (w : World) (base : Nat) (spare : Nat → Bool) (held : Bool) (n : Nat) (cs : List Value) (ys : List (DataW H × List MemPlace)), cs.length = off + d.sz → ys.length = fs.length →
    (∀ (i : Nat) (f : Field), fs[i]? = some f → DataW.trod enc P w base spare held n f.type ((cs.drop f.offset).take (P.cellsOf f.type)) = ys[i]?) → (DataW.weightsEach P (fs.map (·.type)) (ys.map (·.1))).all (· ≤ reachBytes) = true →
    ∃ a, d.K w a (cs.drop off) ∧ wf a ∧ mm a ≤ Rows.uptoBulkAll (ys.map (·.1))
theorem readsL_one {d : Kd α} {wf : α → Prop} {mm : α → Nat} {f : Field} {off : Nat} (hr : Reads P d f.type wf mm) (hc : P.cellsOf f.type = d.sz) (ho : f.offset = off) : ReadsL P d [f] off wf mm := by
  intro H enc w base spare held n cs ys hl hy ht hw
  match ys, hy with
  | [y], _ =>
    have h := ht 0 f rfl
    rw [ho, hc, List.take_of_length_le (by rw [List.length_drop]; omega)] at h
    obtain ⟨a, h1, h2, h3⟩ := hr H enc w base spare held n _ y h (by simpa [DataW.weightsEach] using hw)
    exact ⟨a, h1, h2, by simp [Rows.uptoBulkAll]; omega⟩
theorem readsL_cons {d : Kd α} {d' : Kd β} {wf : α → Prop} {wf' : β → Prop} {mm : α → Nat} {mm' : β → Nat} {f : Field} {fs : List Field} {off off' : Nat} (hr : Reads P d f.type wf mm) (hc : P.cellsOf f.type = d.sz) (ho : f.offset = off) (ho' : off' = off + d.sz) (h : ReadsL P d' fs off' wf' mm') :
    ReadsL P (Kd.pair d d') (f :: fs) off (fun x => wf x.1 ∧ wf' x.2) (fun x => mm x.1 + mm' x.2) := by
  subst ho'
  intro H enc w base spare held n cs ys hl hy ht hw
  match ys, hy with
  | y :: ys, hy =>
    simp only [List.map_cons, DataW.weightsEach, List.all_append, Bool.and_eq_true] at hw
    have h0 := ht 0 f rfl
    rw [ho, hc] at h0
    obtain ⟨a, ha, wa, ma⟩ := hr H enc w base spare held n _ y h0 hw.1
    have hsz : (Kd.pair d d').sz = d.sz + d'.sz := rfl
    rw [hsz] at hl
    obtain ⟨b, hb, wb, mb⟩ := h H enc w base spare held n cs ys (by omega) (by simpa using hy) (fun i g hg => by simpa using ht (i + 1) g (by simpa using hg)) hw.2
    refine ⟨(a, b), ⟨_, _, ?_, ha, hb⟩, ⟨wa, wb⟩, by simp only [List.map_cons, Rows.uptoBulkAll]; exact Nat.add_le_add ma mb⟩
    rw [← List.drop_drop, List.take_append_drop]
theorem reads_struct {d : Kd α} {wf : α → Prop} {mm : α → Nat} {t : TypeId} {fs : Array Field} (hu : P.underlying t = some (.struct fs)) (hc : P.cellsOf t = d.sz) (h : ReadsL P d fs.toList 0 wf mm) : Reads P d t wf (fun a => mm a + 1) := by
  intro H enc w base spare held fuel cs x ht hw
  obtain ⟨ys, n, _, rfl, hl, hlen, hf⟩ := DataW.trod_struct hu ht
  have hw' : (DataW.weightsEach P (fs.toList.map (·.type)) (ys.map (·.1))).all (· ≤ reachBytes) = true := by simpa [DataW.weights, hu] using hw
  have := h H enc w base spare held n cs ys (by omega) (by simpa using hlen) (fun i f hi => hf i f (by simpa using hi)) hw'
  simpa [Rows.uptoBulk] using this
/-- An argument that is a slice. -/
theorem reads_arg {H : Type} {enc : TypeId × Value → H} {w : World} {base : Nat} {spare : Nat → Bool} {held : Bool} {d : Kd α} {wf : List α → Prop} {mm : List α → Nat} {t e : TypeId} {A : Option Addr} {len cap : Nat} {x : DataW H} {ps : List MemPlace} (hr : Reads P (Kd.slice e d) t wf mm)
    (h : DataW.Trod enc P w base spare held t (.slice A len cap) x ps) (hw : (x.weights P t).all (· ≤ reachBytes) = true) : ∃ xs : List α, len = xs.length ∧ xs.length ≤ cap ∧ d.C w A xs.length xs ∧ wf xs ∧ mm xs ≤ Rows.uptoBulk x := by
  obtain ⟨fuel, hf⟩ := h
  obtain ⟨xs, ⟨A', c', e', hl, hC⟩, hwf, hmb⟩ := hr H enc w base spare held fuel _ _ hf hw
  simp [Value.cells] at e'
  obtain ⟨rfl, rfl, rfl⟩ := e'
  exact ⟨xs, rfl, hl, hC, hwf, hmb⟩
end
end Go.Proofs.Ytfgccmgfkfhfcaa.PAll
