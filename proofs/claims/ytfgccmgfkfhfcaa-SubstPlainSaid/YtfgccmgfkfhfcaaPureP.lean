/- Steps of parseN, in plain Lean. -/
import Derived.Test.YtfgccmgfkfhfcaaPureX
namespace Go.Proofs.Ytfgccmgfkfhfcaa.Pure
open Go.RowKit Go.Proofs.Ytfgccmgfkfhfcaa.PAll Go.Proofs.YtfgccmgfkfhfcaaW.PrintWords Go.Proofs.YtfgccmgfkfhfcaaW.PrintLast
set_option linter.unusedVariables false
set_option linter.unusedSimpArgs false
theorem parse_next {f : Nat} {l : List Int} {e gr : Int} {k : Nat} {ps : List S49} {s : StepR} (hs : stepR l e k = s) (hb : ps.length < 1099511627776 ∧ (PAll.lastT ps).f1.length < 1099511627776) :
    parseN (f + 1) l e gr k ps = (if s.err ≠ 0 then some ([], 0, s.err, s.place)
      else if s.more = false then some (ps, (s.k : Int), 0, 0)
      else if s.esc = true ∧ s.c ≠ e ∧ 0 ≤ wrap32 (s.c - 48) ∧ wrap32 (s.c - 48) ≤ 9 then
        (if gr < wrap32 (s.c - 48) then none else parseN f l e gr s.k (ps ++ [⟨2, [], wrap32 (s.c - 48)⟩]))
      else if s.esc = true ∧ s.c = 110 ∧ e ≠ 110 then none
      else if s.esc = false ∧ s.c = 38 then parseN f l e gr s.k (ps ++ [⟨2, [], 0⟩])
      else parseN f l e gr s.k (putP ps s.c)) := by
  subst hs
  simp only [parseN]
  rw [if_pos hb]
/-- A cell that stands for itself. -/
theorem parse_cell {f : Nat} {l : List Int} {e gr : Int} {k : Nat} {ps : List S49} {c : Int} (h : k < l.length) (hc : l.getD k 0 = c) (h1 : c ≠ e) (h2 : c ≠ 10) (h3 : c ≠ 92) (h4 : c ≠ 38) (hb : ps.length < 1099511627776 ∧ (PAll.lastT ps).f1.length < 1099511627776) :
    parseN (f + 1) l e gr k ps = parseN f l e gr (k + 1) (putP ps c) := by
  have hs : stepR l e k = ⟨c, false, k, true, 0, 0, k + 1⟩ := by unfold stepR; rw [if_neg (by omega), hc, if_neg h1, if_neg h2, if_pos h3]
  rw [parse_next hs hb]
  simp [h4]
/-- The sign behind a stroke. -/
theorem parse_strokeE {f : Nat} {l : List Int} {e gr : Int} {k : Nat} {ps : List S49} (h : k + 1 < l.length) (hc : l.getD k 0 = 92) (hd : l.getD (k + 1) 0 = e) (h3 : e ≠ 92) (hb : ps.length < 1099511627776 ∧ (PAll.lastT ps).f1.length < 1099511627776) :
    parseN (f + 1) l e gr k ps = parseN f l e gr (k + 2) (putP ps e) := by
  have hs : stepR l e k = ⟨e, true, k, true, 0, 0, k + 2⟩ := by unfold stepR; rw [if_neg (by omega), hc, if_neg (fun h => h3 h.symm), if_neg (by decide), if_neg (by decide), if_neg (by omega), hd]
  rw [parse_next hs hb]
  simp only [ne_eq, not_true_eq_false, if_false, false_and, and_false, if_neg (show ¬ (true = false) by decide)]
  by_cases h : e = 110
  · rw [if_neg (fun q => q.2.2 h), if_neg (fun q => by simp at q)]
  · rw [if_neg (fun q => h q.2.1), if_neg (fun q => by simp at q)]
/-- The sign. -/
theorem parse_sign {f : Nat} {l : List Int} {e gr : Int} {k : Nat} {ps : List S49} (h : k < l.length) (hc : l.getD k 0 = e) (hb : ps.length < 1099511627776 ∧ (PAll.lastT ps).f1.length < 1099511627776) :
    parseN (f + 1) l e gr k ps = some (ps, ((k + 1 : Nat) : Int), 0, 0) := by
  have hs : stepR l e k = ⟨e, false, k, false, 0, 0, k + 1⟩ := by unfold stepR; rw [if_neg (by omega), hc, if_pos rfl]
  rw [parse_next hs hb]
  simp
/-- No sign. -/
theorem parse_none {f : Nat} {l : List Int} {e gr : Int} {k : Nat} {ps : List S49} (h : l.length ≤ k) (hb : ps.length < 1099511627776 ∧ (PAll.lastT ps).f1.length < 1099511627776) :
    parseN (f + 1) l e gr k ps = some ([], 0, 30, (l.length : Int)) := by
  have hs : stepR l e k = ⟨0, false, 0, false, 30, l.length, k⟩ := by unfold stepR; rw [if_pos h]
  rw [parse_next hs hb]
  simp
theorem putP_nil (c : Int) : putP [] c = [⟨1, [c], 0⟩] := rfl
theorem putP_one (a : List Int) (c : Int) : putP [⟨1, a, 0⟩] c = [⟨1, a ++ [c], 0⟩] := rfl
theorem bd_nil : ([] : List S49).length < 1099511627776 ∧ (PAll.lastT []).f1.length < 1099511627776 := ⟨by decide, by decide⟩
theorem bd_one {a : List Int} (h : a.length < 1000) : ([⟨1, a, 0⟩] : List S49).length < 1099511627776 ∧ (PAll.lastT [⟨1, a, 0⟩]).f1.length < 1099511627776 := ⟨by simp, by show a.length < _; omega⟩
end Go.Proofs.Ytfgccmgfkfhfcaa.Pure
