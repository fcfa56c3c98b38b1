import Derived.Test.YtfgccmgfkfhfcaaPAllx7
import Derived.Test.YtfgccmgfkfhfcaaPureP
namespace Go.Proofs.Ytfgccmgfkfhfcaa.Pure
open Go.RowKit Go.Proofs.Ytfgccmgfkfhfcaa.PAll Go.Proofs.YtfgccmgfkfhfcaaW.PrintWords Go.Proofs.YtfgccmgfkfhfcaaW.PrintLast
set_option linter.unusedVariables false
theorem ends1 (c : Int) (h1 : c ≠ 92) (h2 : c ≠ 10) (h4 : c ≠ 120) (h5 : c ≠ 121) : subst_Parse.f [120, 92, c, 121, c, 122] 0 c 9 = some ([⟨1, [120, c, 121], 0⟩], 5, 0, 0) := by
  unfold subst_Parse.f
  rw [if_pos ⟨rfl, by simp⟩]
  show parseN 8 _ c 9 0 [] = _
  rw [parse_cell (c := 120) (by simp) rfl (Ne.symm h4) (by decide) (by decide) (by decide) bd_nil, putP_nil,
    parse_strokeE (l := [120, 92, c, 121, c, 122]) (e := c) (k := 0 + 1) (by simp) rfl rfl h1 (bd_one (by simp)), putP_one,
    parse_cell (c := 121) (by simp) rfl (Ne.symm h5) (by decide) (by decide) (by decide) (bd_one (by simp)), putP_one,
    parse_sign (l := [120, 92, c, 121, c, 122]) (e := c) (k := 0 + 1 + 2 + 1) (by simp) rfl (bd_one (by simp))]
  rfl
theorem ends2 (c : Int) (h1 : c ≠ 92) (h2 : c ≠ 10) (h4 : c ≠ 120) : subst_Parse.f [120, 92, c] 0 c 9 = some ([], 0, 30, 3) := by
  unfold subst_Parse.f
  rw [if_pos ⟨rfl, by simp⟩]
  show parseN 5 _ c 9 0 [] = _
  rw [parse_cell (c := 120) (by simp) rfl (Ne.symm h4) (by decide) (by decide) (by decide) bd_nil, putP_nil,
    parse_strokeE (l := [120, 92, c]) (e := c) (k := 0 + 1) (by simp) rfl rfl h1 (bd_one (by simp)), putP_one,
    parse_none (by simp) (bd_one (by simp))]
  rfl
theorem ends_known (a0 a1 : Int) : Ev (fun k => redactorlaw14_SubstEnds.j0 k a0 a1 true) true := by
  refine Ev.step (f := fun k => (redactorlaw14_known.f k).bind fun t279 => (some t279)) (fun k => by simp only [redactorlaw14_SubstEnds.j0, if_true]) ?_
  exact Ev.bind known_ev (Ev.now _)
theorem SubstEnds : redactorlaw14_SubstEnds.Pure := by
  intro c a1 hw hw1
  refine Ev.rounds (?_ : Ev (fun k => redactorlaw14_SubstEnds.f k c a1) true)
  unfold redactorlaw14_SubstEnds.f
  by_cases h1 : c = 92
  · exact Ev.congr (fun k => by rw [if_pos h1]) (ends_known c a1)
  by_cases h2 : c = 10
  · exact Ev.congr (fun k => by rw [if_neg h1, if_pos h2]) (ends_known c a1)
  by_cases h3 : c = 38
  · exact Ev.congr (fun k => by rw [if_neg h1, if_neg h2, if_pos h3]) (ends_known c a1)
  by_cases h4 : c = 120
  · exact Ev.congr (fun k => by rw [if_neg h1, if_neg h2, if_neg h3, if_pos h4]) (ends_known c a1)
  by_cases h5 : c = 121
  · exact Ev.congr (fun k => by rw [if_neg h1, if_neg h2, if_neg h3, if_neg h4, show (c == 121) = true by simpa using h5]) (ends_known c a1)
  refine Ev.congr (fun k => by rw [if_neg h1, if_neg h2, if_neg h3, if_neg h4, show (c == 121) = false by simpa using h5]) ?_
  have hT : Ev (fun k => redactorlaw14_SubstEnds.j1 k c [⟨1, [120, c, 121], 0⟩] 5 0 30 3 true) true := Ev.step (f := fun _ => some true) (fun k => by simp [redactorlaw14_SubstEnds.j1]) (Ev.now _)
  by_cases h6 : c = 122
  · refine Ev.step (fun k => ?_) hT
    simp only [redactorlaw14_SubstEnds.j0]
    rw [if_neg (by decide), ends1 c h1 h2 h4 h5, Option.bind_some, ends2 c h1 h2 h4, Option.bind_some, if_pos h6]
  by_cases h7 : a1 > 250
  · refine Ev.step (fun k => ?_) hT
    simp only [redactorlaw14_SubstEnds.j0]
    rw [if_neg (by decide), ends1 c h1 h2 h4 h5, Option.bind_some, ends2 c h1 h2 h4, Option.bind_some, if_neg h6, decide_eq_true h7]
  refine Ev.step (f := fun k => redactorlaw14_SubstEnds.j1 k c [⟨1, [120, c, 121], 0⟩] 5 0 30 3 false) (fun k => ?_) ?_
  · simp only [redactorlaw14_SubstEnds.j0]
    rw [if_neg (by decide), ends1 c h1 h2 h4 h5, Option.bind_some, ends2 c h1 h2 h4, Option.bind_some, if_neg h6, decide_eq_false h7]
  refine Ev.step (f := fun k => (redactorlaw14_known.f k).bind fun t298 => (if t298 = true then ((subst_Expand.f k [⟨1, [120, c, 121], 0⟩] ([] : List Int) ([] : List (S44))).bind fun t299 => ((redactorref01_Same.f k t299 (([120, c, 121] : List Int))).bind fun t305 => (some t305))) else (some false))) (fun k => by simp [redactorlaw14_SubstEnds.j1]) ?_
  refine Ev.bind known_ev ?_
  refine Ev.congr (fun k => by rw [if_pos rfl]) ?_
  refine Ev.bind (a := [120, c, 121]) (expand_ev [] [] [⟨1, [120, c, 121], 0⟩] (by simp) (by simp [partP])) ?_
  exact Ev.bind (same_ev _ (by simp)) (Ev.now _)
end Go.Proofs.Ytfgccmgfkfhfcaa.Pure
