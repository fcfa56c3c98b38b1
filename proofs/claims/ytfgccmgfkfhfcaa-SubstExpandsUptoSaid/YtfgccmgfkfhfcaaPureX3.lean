/- SubstExpands in plain Lean, where parts and cells are not too many. -/
import Derived.Test.YtfgccmgfkfhfcaaPureX2
namespace Go.Proofs.Ytfgccmgfkfhfcaa.Pure
open Go.RowKit Go.Proofs.Ytfgccmgfkfhfcaa.PAll Go.Proofs.YtfgccmgfkfhfcaaW.PrintWords Go.Proofs.YtfgccmgfkfhfcaaW.PrintLast Go.Proofs.YtfgccmgfkfhfcaaW.PrintMore
set_option linter.unusedVariables false
set_option linter.unusedSimpArgs false
theorem partP_length (x : List Int) (s : List S44) (p : S49) (M : Nat) (h1 : p.f1.length ≤ M) (h2 : x.length ≤ M) : (partP x s p).length ≤ M := by
  unfold partP
  split
  · exact h1
  · split
    · rw [List.length_drop, List.length_take]; omega
    · exact Nat.zero_le _
theorem flat_length (x : List Int) (s : List S44) (ps : List S49) (M : Nat) (h1 : ∀ p ∈ ps, p.f1.length ≤ M) (h2 : x.length ≤ M) : (ps.flatMap (partP x s)).length ≤ ps.length * M := by
  induction ps with
  | nil => simp
  | cons p t ih =>
    have e1 := partP_length x s p M (h1 p (by simp)) h2
    have e2 := ih (fun q hq => h1 q (by simp [hq]))
    rw [List.flatMap_cons, List.length_append, List.length_cons, Nat.succ_mul]
    omega
/-- Parts and their cells, counted. -/
def bulkP (ps : List S49) : Nat := (ps.map fun p => 1 + p.f1.length).sum
theorem bulk_length (ps : List S49) : ps.length ≤ bulkP ps := by
  induction ps with
  | nil => simp [bulkP]
  | cons p t ih => have : bulkP (p :: t) = 1 + p.f1.length + bulkP t := by simp [bulkP]
                   rw [this, List.length_cons]; omega
theorem bulk_part (ps : List S49) : ∀ p ∈ ps, p.f1.length ≤ bulkP ps := by
  induction ps with
  | nil => simp
  | cons q t ih =>
    intro p hp
    have e : bulkP (q :: t) = 1 + q.f1.length + bulkP t := by simp [bulkP]
    rcases List.mem_cons.1 hp with h | h
    · subst h; omega
    · have := ih p h; omega
theorem bulk_app (a b : List S49) : bulkP (a ++ b) = bulkP a + bulkP b := by unfold bulkP; rw [List.map_append, List.sum_append]
theorem bulk_take (ps : List S49) (i : Nat) (hi : i < ps.length) : bulkP (ps.take (i + 1)) = bulkP (ps.take i) + (1 + ps[i].f1.length) := by
  rw [List.take_succ_eq_append_getElem hi, bulk_app]; rfl
theorem bulk_take_le (ps : List S49) (i : Nat) : bulkP (ps.take i) ≤ bulkP ps := by
  have e := bulk_app (ps.take i) (ps.drop i)
  rw [List.take_append_drop] at e
  omega
theorem expands_true (p : List S49) (l : List Int) (s : List S44) (c d : List Int) : Ev (fun k => redactorlaw14_SubstExpands.j1 k p l s c d true) true := by
  refine Ev.step (f := fun k => (redactorlaw14_known.f k).bind fun t372 => (some t372)) (fun k => by simp only [redactorlaw14_SubstExpands.j1]; rw [if_pos trivial]) ?_
  exact Ev.bind known_ev (Ev.now _)
theorem expands_false (p : List S49) (l : List Int) (s : List S44) (c d : List Int) (hp : bulkP p ≤ 300) (hl : l.length ≤ 300) (hc : c.length * 1 ≤ 140737488351232) (uc : ∀ x ∈ c, (Lit.int .u8 x).wf = true) (hd : d.length * 1 ≤ 140737488351232) (ud : ∀ x ∈ d, (Lit.int .u8 x).wf = true) : Ev (fun k => redactorlaw14_SubstExpands.j1 k p l s c d false) true := by
  obtain ⟨x, hx, hx2, _⟩ := cells_ev d hd ud
  obtain ⟨t, ht, ht2⟩ := text_ev c (by omega) uc
  obtain ⟨r1, r2, r3, r4, hr, hb⟩ := rparse_ev t (-999) 9 (by omega)
  have hpl := bulk_length p
  have f1 := flat_length l s p 300 (fun q hq => Nat.le_trans (bulk_part p q hq) hp) hl
  have f1' : (p.flatMap (partP l s)).length ≤ 90000 := Nat.le_trans f1 (by omega)
  have hxl : (x ++ [(47 : Int)]).length ≤ 1001 := by simp; omega
  refine Ev.step (f := fun k => (redactorlaw01_Cells.f k d).bind fun t373 => (if t373.length < 35184372088832 then ((some (t373 ++ [47] : List Int)).bind fun y376 => ((redactorlaw14_Text.f k c).bind fun t379 => ((redactorref14_Parse.f k t379 0 (-999) 9).bind fun bt382 => ((some (([(⟨0, (y376.length : Int)⟩ : S44), (⟨wrap64 ((y376.length : Int) / 2), (y376.length : Int)⟩ : S44), (⟨(-1), (-1)⟩ : S44)] : List (S44)) : List (S44))).bind fun y388 => (if bt382.2.2.1 = 0 then (redactorlaw14_SubstExpands.j2 k p l s y376 bt382.1 y388) else (redactorlaw14_SubstExpands.j2 k p l s y376 (([(⟨2, ([] : List Int), 1⟩ : S49), (⟨1, y376, 0⟩ : S49), (⟨2, ([] : List Int), 7⟩ : S49)] : List (S49))) y388)))))) else (none))) (fun k => by simp only [redactorlaw14_SubstExpands.j1]; rw [if_neg (by decide)]) ?_
  refine Ev.bind hx ?_
  refine Ev.congr (fun k => by rw [if_pos (by omega), Option.bind_some]) ?_
  refine Ev.bind ht ?_
  refine Ev.bind hr ?_
  refine Ev.congr (fun k => by rw [Option.bind_some]) ?_
  by_cases h0 : r3 = 0
  · refine Ev.congr (fun k => by rw [if_pos h0]) ?_
    refine expands_j2 p r1 l (x ++ [47]) s _ (by omega) (by have := hb.1; omega) (by omega) ?_
    have f2 := flat_length (x ++ [47]) [(⟨0, ((x ++ [(47 : Int)]).length : Int)⟩ : S44), (⟨wrap64 (((x ++ [(47 : Int)]).length : Int) / 2), ((x ++ [(47 : Int)]).length : Int)⟩ : S44), (⟨(-1), (-1)⟩ : S44)] r1 1001 hb.2 hxl
    have := Nat.mul_le_mul_right 1001 hb.1
    exact Nat.le_trans f2 (Nat.le_trans this (by decide))
  · refine Ev.congr (fun k => by rw [if_neg h0]) ?_
    refine expands_j2 p _ l (x ++ [47]) s _ (by omega) (by simp) (by omega) ?_
    refine Nat.le_trans (flat_length (x ++ [47]) _ _ 1001 (fun q hq => ?_) hxl) (by simp)
    simp only [List.mem_cons, List.not_mem_nil, or_false] at hq
    rcases hq with h | h | h
    · subst h; simp
    · subst h; exact hxl
    · subst h; simp
theorem expands_go (p : List S49) (l : List Int) (s : List S44) (c d : List Int) (hn : bulkP p + l.length + s.length ≤ 4000000) (hc : c.length * 1 ≤ 140737488351232) (uc : ∀ x ∈ c, (Lit.int .u8 x).wf = true) (hd : d.length * 1 ≤ 140737488351232) (ud : ∀ x ∈ d, (Lit.int .u8 x).wf = true) :
    ∀ (m i : Nat), i ≤ p.length → p.length - i ≤ m → Ev (fun k => redactorlaw14_SubstExpands.l0 k p l s c d ((l.length + s.length + bulkP (p.take i) : Nat) : Int) (i : Int)) true := by
  have hpl := bulk_length p
  have hend : ∀ i : Nat, i = p.length → Ev (fun k => redactorlaw14_SubstExpands.l0 k p l s c d ((l.length + s.length + bulkP (p.take i) : Nat) : Int) (i : Int)) true := by
    intro i hi
    rw [hi, List.take_length]
    by_cases h : ((l.length + s.length + bulkP p : Nat) : Int) > 300
    · refine Ev.step (fun k => ?_) (expands_true p l s c d)
      simp only [redactorlaw14_SubstExpands.l0]
      rw [if_neg (by omega), if_pos h]
    · refine Ev.step (f := fun k => (redactorlaw14_known.f k).bind fun t371 => (redactorlaw14_SubstExpands.j1 k p l s c d (!t371))) (fun k => by simp only [redactorlaw14_SubstExpands.l0]; rw [if_neg (by omega), if_neg h]) ?_
      exact Ev.bind known_ev (expands_false p l s c d (by omega) (by omega) hc uc hd ud)
  intro m
  induction m with
  | zero => intro i h1 h2; exact hend i (by omega)
  | succ m ih =>
    intro i h1 h2
    by_cases hi : i < p.length
    · have hw : wrap64 ((i : Int) + 1) = ((i + 1 : Nat) : Int) := by rw [w64 (by omega) (by omega)]; rfl
      have hb := bulk_take p i hi
      have hb2 := bulk_take_le p (i + 1)
      have hw2 : wrap64 (1 + (p[i].f1.length : Int)) = ((1 + p[i].f1.length : Nat) : Int) := by clear hw; rw [w64 (by omega) (by omega)]; omega
      have hw3 : wrap64 (((l.length + s.length + bulkP (p.take i) : Nat) : Int) + ((1 + p[i].f1.length : Nat) : Int)) = ((l.length + s.length + bulkP (p.take (i + 1)) : Nat) : Int) := by clear hw hw2; rw [w64 (by omega) (by omega)]; omega
      refine Ev.step (fun k => ?_) (ih (i + 1) (by omega) (by omega))
      simp only [redactorlaw14_SubstExpands.l0]
      rw [if_pos (by clear hw hw2 hw3; omega), if_pos (by clear hw hw2 hw3; omega), rd_T49_nat p i hi, hw2, hw3, hw]
    · exact hend i (by omega)
theorem expands_pure (p : List S49) (l : List Int) (s : List S44) (c d : List Int) (hn : bulkP p + l.length + s.length ≤ 4000000) (hc : c.length * 1 ≤ 140737488351232) (uc : ∀ x ∈ c, (Lit.int .u8 x).wf = true) (hd : d.length * 1 ≤ 140737488351232) (ud : ∀ x ∈ d, (Lit.int .u8 x).wf = true) : ∃ k, redactorlaw14_SubstExpands.f k p l s c d = some true := by
  have h := expands_go p l s c d hn hc uc hd ud p.length 0 (Nat.zero_le _) (Nat.le_refl _)
  refine Ev.rounds (Ev.congr (fun k => ?_) h)
  have hw : wrap64 ((l.length : Int) + (s.length : Int)) = ((l.length + s.length : Nat) : Int) := by rw [w64 (by omega) (by omega)]; omega
  unfold redactorlaw14_SubstExpands.f
  rw [hw]
  rfl
end Go.Proofs.Ytfgccmgfkfhfcaa.Pure
