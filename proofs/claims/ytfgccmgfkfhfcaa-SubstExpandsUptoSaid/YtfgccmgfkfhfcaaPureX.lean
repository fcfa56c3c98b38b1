/- What Expand makes of parts, in plain Lean. -/
import Derived.Test.YtfgccmgfkfhfcaaPAllx6
import Derived.Test.YtfgccmgfkfhfcaaPureA
namespace Go.Proofs.Ytfgccmgfkfhfcaa.Pure
open Go.RowKit Go.Proofs.Ytfgccmgfkfhfcaa.PAll Go.Proofs.YtfgccmgfkfhfcaaW.PrintWords Go.Proofs.YtfgccmgfkfhfcaaW.PrintLast
/-- What one part makes. -/
def partP (x : List Int) (s : List S44) (p : S49) : List Int :=
  if p.f0 = 1 then p.f1
  else if p.f0 = 2 ∧ p.f2 ≥ 0 ∧ p.f2 < (s.length : Int) ∧ (rd_T44 s p.f2).f0 ≥ 0 ∧ (rd_T44 s p.f2).f0 ≤ (rd_T44 s p.f2).f1 ∧ (rd_T44 s p.f2).f1 ≤ (x.length : Int) then (x.take (rd_T44 s p.f2).f1.toNat).drop (rd_T44 s p.f2).f0.toNat
  else []
theorem rd_T49_nat (ps : List S49) (i : Nat) (h : i < ps.length) : rd_T49 ps (i : Int) = ps[i] := by
  unfold rd_T49; rw [Int.toNat_natCast, List.getD_eq_getElem?_getD, List.getElem?_eq_getElem h]; rfl
theorem expand_j1 (x acc : List Int) (s : List S44) (ps : List S49) (n j : Int) (p : S49) (h1 : p.f0 ≠ 1) (hl : acc.length + (partP x s p).length < 35184372088832) (k : Nat) :
    (if p.f0 = 2 then (if p.f2 ≥ 0 then (subst_Expand.j1 (k + 1) x s acc ps n j (decide (p.f2 < (s.length : Int))) p.f0 p.f1 p.f2) else (subst_Expand.j1 (k + 1) x s acc ps n j false p.f0 p.f1 p.f2)) else (subst_Expand.j1 (k + 1) x s acc ps n j false p.f0 p.f1 p.f2)) = subst_Expand.l0 k x s (acc ++ partP x s p) ps n (wrap64 (j + 1)) := by
  have hneg : ¬ (p.f0 = 2 ∧ p.f2 ≥ 0 ∧ p.f2 < (s.length : Int) ∧ (rd_T44 s p.f2).f0 ≥ 0 ∧ (rd_T44 s p.f2).f0 ≤ (rd_T44 s p.f2).f1 ∧ (rd_T44 s p.f2).f1 ≤ (x.length : Int)) → acc ++ partP x s p = acc := fun h => by unfold partP; rw [if_neg h1, if_neg h, List.append_nil]
  have hpos : (p.f0 = 2 ∧ p.f2 ≥ 0 ∧ p.f2 < (s.length : Int) ∧ (rd_T44 s p.f2).f0 ≥ 0 ∧ (rd_T44 s p.f2).f0 ≤ (rd_T44 s p.f2).f1 ∧ (rd_T44 s p.f2).f1 ≤ (x.length : Int)) → partP x s p = (x.take (rd_T44 s p.f2).f1.toNat).drop (rd_T44 s p.f2).f0.toNat := fun h => by unfold partP; rw [if_neg h1, if_pos h]
  by_cases c1 : p.f0 = 2
  · rw [if_pos c1]
    by_cases c2 : p.f2 ≥ 0
    · rw [if_pos c2]
      by_cases c3 : p.f2 < (s.length : Int)
      · simp only [subst_Expand.j1, decide_eq_true c3, if_true]
        rw [if_pos (show 0 ≤ p.f2 by omega)]
        by_cases c4 : (rd_T44 s p.f2).f0 ≥ 0
        · by_cases c5 : (rd_T44 s p.f2).f0 ≤ (rd_T44 s p.f2).f1
          · by_cases c6 : (rd_T44 s p.f2).f1 ≤ (x.length : Int)
            · rw [hpos ⟨c1, c2, c3, c4, c5, c6⟩] at hl ⊢
              rw [if_pos c3, if_pos c4, if_pos c5, if_pos c6, if_pos (show 0 ≤ (rd_T44 s p.f2).f0 by omega), if_pos hl]
            · rw [hneg (fun h => c6 h.2.2.2.2.2), if_pos c3, if_pos c4, if_pos c5, if_neg c6]
          · rw [hneg (fun h => c5 h.2.2.2.2.1), if_pos c3, if_pos c4, if_neg c5]
        · rw [hneg (fun h => c4 h.2.2.2.1), if_pos c3, if_neg c4]
      · rw [hneg (fun h => c3 h.2.2.1), decide_eq_false c3]
        simp [subst_Expand.j1]
    · rw [if_neg c2, hneg (fun h => c2 h.2.1)]
      simp [subst_Expand.j1]
  · rw [if_neg c1, hneg (fun h => c1 h.1)]
    simp [subst_Expand.j1]
theorem expand_go (x : List Int) (s : List S44) (ps : List S49) (hp : ps.length ≤ 1000000000000) : ∀ (d i : Nat) (acc : List Int), i ≤ ps.length → ps.length - i = d → acc.length + ((ps.drop i).flatMap (partP x s)).length < 35184372088832 → Ev (fun k => subst_Expand.l0 k x s acc ps (ps.length : Int) (i : Int)) (acc ++ (ps.drop i).flatMap (partP x s)) := by
  intro d
  induction d with
  | zero =>
    intro i acc h1 h2 h3
    obtain rfl : i = ps.length := by omega
    rw [List.drop_length]
    refine Ev.step (f := fun _ => some acc) (fun k => by simp only [subst_Expand.l0]; rw [if_neg (by omega)]) ?_
    simpa using Ev.now acc
  | succ d ih =>
    intro i acc h1 h2 h3
    have hi : i < ps.length := by omega
    have hw : wrap64 ((i : Int) + 1) = ((i + 1 : Nat) : Int) := by rw [w64 (by omega) (by omega)]; rfl
    have e : (ps.drop i).flatMap (partP x s) = partP x s ps[i] ++ (ps.drop (i + 1)).flatMap (partP x s) := by
      rw [List.drop_eq_getElem_cons hi, List.flatMap_cons]
    rw [e, List.length_append] at h3
    have h := ih (i + 1) (acc ++ partP x s ps[i]) (by omega) (by omega) (by rw [List.length_append]; omega)
    rw [e, ← List.append_assoc]
    by_cases c : ps[i].f0 = 1
    · refine Ev.step (fun k => ?_) h
      simp only [subst_Expand.l0]
      have hpp : partP x s ps[i] = ps[i].f1 := by unfold partP; rw [if_pos c]
      rw [if_pos (by omega), if_pos (by omega), if_pos (by omega), rd_T49_nat ps i hi, if_pos c, hw, hpp, if_pos (by rw [hpp] at h3; omega)]
    · refine Ev.step (f := fun k => (if ps[i].f0 = 2 then (if ps[i].f2 ≥ 0 then (subst_Expand.j1 k x s acc ps (ps.length : Int) i (decide (ps[i].f2 < (s.length : Int))) ps[i].f0 ps[i].f1 ps[i].f2) else (subst_Expand.j1 k x s acc ps (ps.length : Int) i false ps[i].f0 ps[i].f1 ps[i].f2)) else (subst_Expand.j1 k x s acc ps (ps.length : Int) i false ps[i].f0 ps[i].f1 ps[i].f2))) (fun k => ?_) ?_
      · simp only [subst_Expand.l0]
        rw [if_pos (by omega), if_pos (by omega), if_pos (by omega), rd_T49_nat ps i hi, if_neg c]
      · refine Ev.step (fun k => ?_) h
        rw [expand_j1 x acc s ps _ _ ps[i] c (by omega), hw]
theorem expand_ev (x : List Int) (s : List S44) (ps : List S49) (hp : ps.length ≤ 1000000000000) (h : (ps.flatMap (partP x s)).length < 35184372088832) : Ev (fun k => subst_Expand.f k ps x s) (ps.flatMap (partP x s)) := by
  have := expand_go x s ps hp _ 0 [] (Nat.zero_le _) rfl (by simpa using h)
  rw [List.nil_append, List.drop_zero] at this
  exact this
end Go.Proofs.Ytfgccmgfkfhfcaa.Pure
