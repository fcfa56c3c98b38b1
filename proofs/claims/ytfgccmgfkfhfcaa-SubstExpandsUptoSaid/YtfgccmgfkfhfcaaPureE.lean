/- The reference's Expand makes of parts what partP says; the count of parts and cells. -/
import Derived.Test.YtfgccmgfkfhfcaaPAllx10
import Derived.Test.YtfgccmgfkfhfcaaPureX
namespace Go.Proofs.Ytfgccmgfkfhfcaa.Pure
open Go.RowKit Go.Proofs.Ytfgccmgfkfhfcaa.PAll Go.Proofs.YtfgccmgfkfhfcaaW.PrintWords Go.Proofs.YtfgccmgfkfhfcaaW.PrintLast
set_option linter.unusedVariables false
set_option linter.unusedSimpArgs false
theorem rexpand_j2 (x acc : List Int) (s : List S44) (ps : List S49) (j : Int) (p : S49) (h1 : p.f0 ≠ 1) (hl : acc.length + (partP x s p).length < 35184372088832) (k : Nat) :
    (if p.f0 = 2 then (if p.f2 ≥ 0 then (redactorref14_Expand.j2 (k + 1) ps x s acc j (decide (p.f2 < (s.length : Int))) p.f0 p.f1 p.f2) else (redactorref14_Expand.j2 (k + 1) ps x s acc j false p.f0 p.f1 p.f2)) else (redactorref14_Expand.j2 (k + 1) ps x s acc j false p.f0 p.f1 p.f2)) = redactorref14_Expand.l0 k ps x s (acc ++ partP x s p) (wrap64 (j + 1)) := by
  have hneg : ¬ (p.f0 = 2 ∧ p.f2 ≥ 0 ∧ p.f2 < (s.length : Int) ∧ (rd_T44 s p.f2).f0 ≥ 0 ∧ (rd_T44 s p.f2).f0 ≤ (rd_T44 s p.f2).f1 ∧ (rd_T44 s p.f2).f1 ≤ (x.length : Int)) → acc ++ partP x s p = acc := fun h => by unfold partP; rw [if_neg h1, if_neg h, List.append_nil]
  have hpos : (p.f0 = 2 ∧ p.f2 ≥ 0 ∧ p.f2 < (s.length : Int) ∧ (rd_T44 s p.f2).f0 ≥ 0 ∧ (rd_T44 s p.f2).f0 ≤ (rd_T44 s p.f2).f1 ∧ (rd_T44 s p.f2).f1 ≤ (x.length : Int)) → partP x s p = (x.take (rd_T44 s p.f2).f1.toNat).drop (rd_T44 s p.f2).f0.toNat := fun h => by unfold partP; rw [if_neg h1, if_pos h]
  by_cases c1 : p.f0 = 2
  · rw [if_pos c1]
    by_cases c2 : p.f2 ≥ 0
    · rw [if_pos c2]
      by_cases c3 : p.f2 < (s.length : Int)
      · simp only [redactorref14_Expand.j2, decide_eq_true c3, if_true]
        rw [if_pos (show 0 ≤ p.f2 by omega)]
        by_cases c4 : (rd_T44 s p.f2).f0 ≥ 0
        · by_cases c5 : (rd_T44 s p.f2).f0 ≤ (rd_T44 s p.f2).f1
          · by_cases c6 : (rd_T44 s p.f2).f1 ≤ (x.length : Int)
            · rw [hpos ⟨c1, c2, c3, c4, c5, c6⟩] at hl ⊢
              rw [if_pos c3, if_pos c4, if_pos c5, if_pos c6, if_pos (show 0 ≤ (rd_T44 s p.f2).f0 by omega), if_pos hl]
            · rw [hneg (fun h => c6 h.2.2.2.2.2), if_pos c3, if_pos c4, if_pos c5, if_neg c6]
          · rw [hneg (fun h => c5 h.2.2.2.2.1), if_pos c3, if_pos c4, if_neg c5]
        · rw [hneg (fun h => c4 h.2.2.2.1), if_pos c3, if_neg c4]
      · rw [hneg (fun h => c3 h.2.2.1), decide_eq_false c3]
        simp [redactorref14_Expand.j2]
    · rw [if_neg c2, hneg (fun h => c2 h.2.1)]
      simp [redactorref14_Expand.j2]
  · rw [if_neg c1, hneg (fun h => c1 h.1)]
    simp [redactorref14_Expand.j2]
theorem rexpand_go (x : List Int) (s : List S44) (ps : List S49) (hp : ps.length ≤ 1000000000000) : ∀ (d i : Nat) (acc : List Int), i ≤ ps.length → ps.length - i = d → acc.length + ((ps.drop i).flatMap (partP x s)).length < 35184372088832 → Ev (fun k => redactorref14_Expand.l0 k ps x s acc (i : Int)) (acc ++ (ps.drop i).flatMap (partP x s)) := by
  intro d
  induction d with
  | zero =>
    intro i acc h1 h2 h3
    obtain rfl : i = ps.length := by omega
    rw [List.drop_length]
    refine Ev.step (f := fun _ => some acc) (fun k => by simp only [redactorref14_Expand.l0]; rw [if_neg (by omega)]) ?_
    simpa using Ev.now acc
  | succ d ih =>
    intro i acc h1 h2 h3
    have hi : i < ps.length := by omega
    have hw : wrap64 ((i : Int) + 1) = ((i + 1 : Nat) : Int) := by rw [w64 (by omega) (by omega)]; rfl
    have e : (ps.drop i).flatMap (partP x s) = partP x s ps[i] ++ (ps.drop (i + 1)).flatMap (partP x s) := by
      rw [List.drop_eq_getElem_cons hi, List.flatMap_cons]
    rw [e, List.length_append] at h3
    have h := ih (i + 1) (acc ++ partP x s ps[i]) (by omega) (by omega) (by rw [List.length_append]; omega)
    rw [e, ← List.append_assoc]
    by_cases c : ps[i].f0 = 1
    · have hpp : partP x s ps[i] = ps[i].f1 := by unfold partP; rw [if_pos c]
      rw [hpp] at h h3 ⊢
      refine Ev.step (f := fun k => redactorref14_Expand.j1 k ps x s (acc ++ ps[i].f1) (i : Int) ps[i].f0 ps[i].f1 ps[i].f2) (fun k => ?_) ?_
      · simp only [redactorref14_Expand.l0]
        rw [if_pos (by omega), if_pos (by omega), rd_T49_nat ps i hi, if_pos c, if_pos (by omega)]
      · refine Ev.step (f := fun k => redactorref14_Expand.j2 k ps x s (acc ++ ps[i].f1) (i : Int) false ps[i].f0 ps[i].f1 ps[i].f2) (fun k => ?_) ?_
        · simp only [redactorref14_Expand.j1]
          rw [if_neg (show ¬ ps[i].f0 = 2 by omega)]
        · refine Ev.step (fun k => ?_) h
          simp only [redactorref14_Expand.j2]
          rw [if_neg (by decide), hw]
    · refine Ev.step (f := fun k => redactorref14_Expand.j1 k ps x s acc (i : Int) ps[i].f0 ps[i].f1 ps[i].f2) (fun k => ?_) ?_
      · simp only [redactorref14_Expand.l0]
        rw [if_pos (by omega), if_pos (by omega), rd_T49_nat ps i hi, if_neg c]
      · refine Ev.step (f := fun k => (if ps[i].f0 = 2 then (if ps[i].f2 ≥ 0 then (redactorref14_Expand.j2 k ps x s acc i (decide (ps[i].f2 < (s.length : Int))) ps[i].f0 ps[i].f1 ps[i].f2) else (redactorref14_Expand.j2 k ps x s acc i false ps[i].f0 ps[i].f1 ps[i].f2)) else (redactorref14_Expand.j2 k ps x s acc i false ps[i].f0 ps[i].f1 ps[i].f2))) (fun k => by simp only [redactorref14_Expand.j1]) ?_
        refine Ev.step (fun k => ?_) h
        rw [rexpand_j2 x acc s ps _ ps[i] c (by omega), hw]
theorem rexpand_ev (x : List Int) (s : List S44) (ps : List S49) (hp : ps.length ≤ 1000000000000) (h : (ps.flatMap (partP x s)).length < 35184372088832) : Ev (fun k => redactorref14_Expand.f k ps x s) (ps.flatMap (partP x s)) := by
  have := rexpand_go x s ps hp _ 0 [] (Nat.zero_le _) rfl (by simpa using h)
  rw [List.nil_append, List.drop_zero] at this
  exact this
/-- The two are the same. -/
theorem expands_j2 (p q : List S49) (l x : List Int) (s t : List S44) (hp : p.length ≤ 1000000) (hq : q.length ≤ 1000000) (h1 : (p.flatMap (partP l s)).length ≤ 1000000000000) (h2 : (q.flatMap (partP x t)).length ≤ 1000000000000) : Ev (fun k => redactorlaw14_SubstExpands.j2 k p l s x q t) true := by
  refine Ev.step (f := fun k => (subst_Expand.f k p l s).bind fun t394 => ((redactorref14_Expand.f k p l s).bind fun t397 => ((redactorref01_Same.f k t394 t397).bind fun t400 => (if t400 = true then ((subst_Expand.f k q x t).bind fun t401 => ((redactorref14_Expand.f k q x t).bind fun t404 => ((redactorref01_Same.f k t401 t404).bind fun t407 => (some t407)))) else (some false))))) (fun k => by simp only [redactorlaw14_SubstExpands.j2]) ?_
  refine Ev.bind (expand_ev l s p (by omega) (by omega)) ?_
  refine Ev.bind (rexpand_ev l s p (by omega) (by omega)) ?_
  refine Ev.bind (same_ev _ h1) ?_
  refine Ev.congr (fun k => by rw [if_pos rfl]) ?_
  refine Ev.bind (expand_ev x t q (by omega) (by omega)) ?_
  refine Ev.bind (rexpand_ev x t q (by omega) (by omega)) ?_
  exact Ev.bind (same_ev _ h2) (Ev.now _)
end Go.Proofs.Ytfgccmgfkfhfcaa.Pure
