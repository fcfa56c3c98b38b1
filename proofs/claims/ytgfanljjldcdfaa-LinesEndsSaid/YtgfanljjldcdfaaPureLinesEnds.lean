/- LinesEnds, said over lists alone: as many lines as ends, and one more, if the text does not end with one. -/
import Derived.Test.YtgfanljjldcdfaaPureA
namespace Go.Proofs.Ytgfanljjldcdfaa.Pure
open Go.RowKit Go.Proofs.Ytgfanljjldcdfaa.PAll Go.Proofs.YtgfanljjldcdfaaW.PrintWords Go.Proofs.YtgfanljjldcdfaaW.PrintLast
theorem rd_nat (l : List Int) (i : Nat) : rd l (i : Int) = l.getD i 0 := by simp [rd]
theorem endsN_cons (c : Int) (r : List Int) : ∀ k, endsN (c :: r) (k + 1) = (if c = 10 then 1 else 0) + endsN r k
  | 0 => by simp [endsN]
  | k + 1 => by
    rw [endsN, endsN_cons c r k, endsN]
    simp only [List.getD_cons_succ]
    split <;> omega
/-- One more line, where the text does not end with an end. -/
def moreN (l : List Int) : Nat := if l.length = 0 then 0 else if l.getD (l.length - 1) 0 = 10 then 0 else 1
theorem split_count (l : List Int) : (splitP l).length = endsN l l.length + moreN l := by
  induction l with
  | nil => rfl
  | cons c r ih =>
    rw [List.length_cons, endsN_cons]
    have hm : r ≠ [] → moreN (c :: r) = moreN r := fun h => by
      obtain ⟨d, t, rfl⟩ := List.exists_cons_of_ne_nil h
      simp [moreN]
    simp only [splitP]
    by_cases hc : c = 10
    · rw [if_pos hc, if_pos hc, List.length_cons, ih]
      rcases r with _ | ⟨d, t⟩
      · subst hc; simp [moreN, endsN]
      · rw [hm (by simp)]; omega
    · rw [if_neg hc, if_neg hc]
      rcases r with _ | ⟨d, t⟩
      · simp [splitP, moreN, endsN, hc]
      · rw [hm (by simp)]
        cases h : splitP (d :: t) with
        | nil => exact absurd (splitP_nil_iff.1 h) (by simp)
        | cons y ys => rw [h] at ih; simp at ih ⊢; omega
theorem ends_tail (x : List Int) (hx : x.length ≤ 60) (n : Nat) (b : Bool) (h : (splitP x).length = n + (if b = true then 1 else 0)) (hn : n ≤ 60) : Ev (fun k => redactorlaw05_LinesEnds.j1 k x (n : Int) b) true := by
  have hc : lines_Count.f x = some ((splitP x).length : Int) := by unfold lines_Count.f; rw [if_pos (by omega)]
  have hs : lines_Split.f x = some (splitP x) := by unfold lines_Split.f; rw [if_pos (by omega)]
  cases b with
  | true =>
    refine Ev.step (f := fun k => (redactorlaw05_known.f k).bind fun t164 => (if t164 = true then ((lines_Count.f x).bind fun t165 => (if t165 = (wrap64 ((n : Int) + 1)) then ((lines_Split.f x).bind fun t166 => (some ((t166.length : Int) == (wrap64 ((n : Int) + 1))))) else (some false))) else (some false))) (fun k => by simp only [redactorlaw05_LinesEnds.j1, if_true]) ?_
    refine Ev.bind known_ev ?_
    have hw : wrap64 ((n : Int) + 1) = ((splitP x).length : Int) := by rw [w64 (by omega) (by omega), h]; rfl
    simp only [if_true, hc, hs, Option.bind_some, hw, beq_self_eq_true]
    exact Ev.now _
  | false =>
    refine Ev.step (f := fun k => (redactorlaw05_known.f k).bind fun t169 => (if t169 = true then ((lines_Count.f x).bind fun t170 => (if t170 = (n : Int) then ((lines_Split.f x).bind fun t171 => (some ((t171.length : Int) == (n : Int)))) else (some false))) else (some false))) (fun k => by simp only [redactorlaw05_LinesEnds.j1]; rw [if_neg (by decide)]) ?_
    refine Ev.bind known_ev ?_
    have hw : (n : Int) = ((splitP x).length : Int) := by rw [h]; simp
    simp only [if_true, hc, hs, Option.bind_some, hw, beq_self_eq_true]
    exact Ev.now _
theorem ends_go (x : List Int) (hx : x.length ≤ 60) : ∀ (d i : Nat), i ≤ x.length → x.length - i = d → Ev (fun k => redactorlaw05_LinesEnds.l0 k x (endsN x i : Int) (i : Int)) true := by
  intro d
  induction d with
  | zero =>
    intro i h1 h2
    obtain rfl : i = x.length := by omega
    have hs := split_count x
    have he := endsN_le x x.length
    by_cases h0 : x.length = 0
    · refine Ev.step (f := fun k => redactorlaw05_LinesEnds.j1 k x (endsN x x.length : Int) false) (fun k => by simp only [redactorlaw05_LinesEnds.l0]; rw [if_neg (by omega), if_neg (by omega)]) ?_
      exact ends_tail x hx _ _ (by rw [hs, moreN, if_pos h0]; rfl) (by omega)
    · have hw : wrap64 ((x.length : Int) - 1) = ((x.length - 1 : Nat) : Int) := by rw [w64 (by omega) (by omega)]; omega
      refine Ev.step (f := fun k => redactorlaw05_LinesEnds.j1 k x (endsN x x.length : Int) (x.getD (x.length - 1) 0 != 10)) (fun k => by simp only [redactorlaw05_LinesEnds.l0]; rw [if_neg (by omega), if_pos (by omega), hw, if_pos (by omega), if_pos (by omega), rd_nat]) ?_
      refine ends_tail x hx _ _ ?_ (by omega)
      rw [hs, moreN, if_neg h0]
      by_cases hl : x.getD (x.length - 1) 0 = 10
      · rw [if_pos hl, hl]; rfl
      · rw [if_neg hl, if_pos (by simpa using hl)]
  | succ d ih =>
    intro i h1 h2
    have h := ih (i + 1) (by omega) (by omega)
    have he := endsN_le x i
    have hw : wrap64 ((i : Int) + 1) = ((i + 1 : Nat) : Int) := by rw [w64 (by omega) (by omega)]; rfl
    have hw2 : wrap64 ((endsN x i : Int) + 1) = ((endsN x i + 1 : Nat) : Int) := by rw [w64 (by omega) (by omega)]; rfl
    refine Ev.step (fun k => ?_) h
    simp only [redactorlaw05_LinesEnds.l0]
    rw [if_pos (by omega), if_pos (by omega), hw, hw2, rd_nat, endsN]
    split <;> rfl
theorem LinesEnds : redactorlaw05_LinesEnds.Pure := by
  intro l0 hl hb hu
  obtain ⟨x, hx, hx60⟩ := cells_ev l0 hb hu
  refine Ev.rounds (g := fun k => redactorlaw05_LinesEnds.f k l0) (r := true) ?_
  unfold redactorlaw05_LinesEnds.f
  exact Ev.bind hx (ends_go x hx60 _ 0 (Nat.zero_le _) rfl)
end Go.Proofs.Ytgfanljjldcdfaa.Pure
