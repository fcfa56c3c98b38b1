/- LinesBack, said over lists alone: lines, joined, are the text; no line has an end in it; but the last one each is ended. -/
import Derived.Test.YtgfanljjldcdfaaPureB
import Derived.Test.YtgfanljjldcdfaaPAllx5
namespace Go.Proofs.Ytgfanljjldcdfaa.Pure
open Go.RowKit Go.Proofs.Ytgfanljjldcdfaa.PAll Go.Proofs.YtgfanljjldcdfaaW.PrintWords Go.Proofs.YtgfanljjldcdfaaW.PrintLast
theorem rd_natB (l : List Int) (i : Nat) : rd l (i : Int) = l.getD i 0 := by simp [rd]
/-- The cells of one line. -/
theorem back_line (x : List Int) (xs : List S32) (i : Nat) (hi : i < xs.length) (hx : ∀ c ∈ xs[i].f0, c ≠ 10) (hl : xs[i].f0.length ≤ 1000000) (f : Nat → Option Bool) (r : Bool)
    (hend : ∀ k, redactorlaw05_LinesBack.l1 (k + 1) x xs (i : Int) (xs[i].f0.length : Int) = f k) (hf : Ev f r) :
    ∀ (d j : Nat), j ≤ xs[i].f0.length → xs[i].f0.length - j = d → Ev (fun k => redactorlaw05_LinesBack.l1 k x xs (i : Int) (j : Int)) r := by
  intro d
  induction d with
  | zero =>
    intro j h1 h2
    obtain rfl : j = xs[i].f0.length := by omega
    exact Ev.step hend hf
  | succ d ih =>
    intro j h1 h2
    have h := ih (j + 1) (by omega) (by omega)
    have hj : j < xs[i].f0.length := by omega
    have hw : wrap64 ((j : Int) + 1) = ((j + 1 : Nat) : Int) := by rw [w64 (by omega) (by omega)]; rfl
    have hne : xs[i].f0.getD j 0 ≠ 10 := by
      rw [List.getD_eq_getElem?_getD, List.getElem?_eq_getElem hj]
      exact hx _ (List.getElem_mem hj)
    refine Ev.step (fun k => ?_) h
    simp only [redactorlaw05_LinesBack.l1]
    rw [if_pos (by omega), if_pos (by omega), t32_at xs i hi, if_pos (by omega), if_pos (by omega), rd_natB, if_neg hne, hw]
theorem joinP_get (xs : List S32) (i : Nat) (hi : i < xs.length) : xs[i].f0.length ≤ (joinP xs).length := by
  have e : xs = xs.take i ++ xs[i] :: xs.drop (i + 1) := by simp
  have h := congrArg (fun l => (joinP l).length) e
  simp only [joinP_append, joinP, List.length_append] at h
  omega
theorem back_go (x : List Int) (hx : x.length ≤ 60) : ∀ (d i : Nat), i ≤ (splitP x).length → (splitP x).length - i = d → Ev (fun k => redactorlaw05_LinesBack.l0 k x (splitP x) (i : Int)) true := by
  have hsl := splitP_length x
  have hj := join_split x
  intro d
  induction d with
  | zero =>
    intro i h1 h2
    obtain rfl : i = (splitP x).length := by omega
    refine Ev.step (f := fun k => (redactorlaw05_known.f k).bind fun t282 => (if t282 = true then ((lines_Join.f k (splitP x)).bind fun t283 => ((redactorref01_Same.f k t283 x).bind fun t286 => (if t286 = true then ((lines_Count.f x).bind fun t287 => (some (t287 == ((splitP x).length : Int)))) else (some false)))) else (some false))) (fun k => by simp only [redactorlaw05_LinesBack.l0]; rw [if_neg (by omega)]) ?_
    refine Ev.bind known_ev ?_
    simp only [if_true]
    have hje := join_ev (splitP x) (by omega) (by rw [hj]; omega)
    rw [hj] at hje
    refine Ev.bind hje ?_
    refine Ev.bind (same_ev x (by omega)) ?_
    have hc : lines_Count.f x = some ((splitP x).length : Int) := by unfold lines_Count.f; rw [if_pos (by omega)]
    simp only [if_true, hc, Option.bind_some, beq_self_eq_true]
    exact Ev.now _
  | succ d ih =>
    intro i h1 h2
    have h := ih (i + 1) (by omega) (by omega)
    have hi : i < (splitP x).length := by omega
    have hg := joinP_get (splitP x) i hi
    rw [hj] at hg
    have hw : wrap64 ((i : Int) + 1) = ((i + 1 : Nat) : Int) := by rw [w64 (by omega) (by omega)]; rfl
    refine Ev.step (f := fun k => redactorlaw05_LinesBack.l1 k x (splitP x) (i : Int) 0) (fun k => by simp only [redactorlaw05_LinesBack.l0]; rw [if_pos (by omega)]) ?_
    refine back_line x (splitP x) i hi (fun c hc => split_clean x _ (List.getElem_mem hi) c hc) (by omega) (fun k => redactorlaw05_LinesBack.l0 k x (splitP x) ((i + 1 : Nat) : Int)) true ?_ h _ 0 (Nat.zero_le _) rfl
    intro k
    simp only [redactorlaw05_LinesBack.l1]
    rw [if_pos (by omega), if_pos (by omega), t32_at _ i hi, if_neg (by omega), hw]
    by_cases hlast : i + 1 < (splitP x).length
    · have ht := split_ended x ((splitP x).take i) (splitP x)[i] ((splitP x).drop (i + 1)) (by simp) (by intro e; have := congrArg List.length e; simp at this; omega)
      rw [if_pos (by omega), if_pos ht]
    · rw [if_neg (by omega)]
      by_cases hb : (splitP x)[i].f1 = true
      · rw [if_pos hb]
      · have ho := split_open x _ (List.getElem_mem hi) (by simpa using hb)
        have : (splitP x)[i].f0.length ≠ 0 := fun e => ho (List.eq_nil_of_length_eq_zero e)
        rw [if_neg hb, if_neg (by omega)]
theorem LinesBack : redactorlaw05_LinesBack.Pure := by
  intro l0 hl hb hu
  obtain ⟨x, hx, hx60⟩ := cells_ev l0 hb hu
  refine Ev.rounds (g := fun k => redactorlaw05_LinesBack.f k l0) (r := true) ?_
  unfold redactorlaw05_LinesBack.f
  refine Ev.bind hx ?_
  have hs : lines_Split.f x = some (splitP x) := by unfold lines_Split.f; rw [if_pos (by omega)]
  simp only [hs, Option.bind_some]
  exact back_go x hx60 _ 0 (Nat.zero_le _) rfl
end Go.Proofs.Ytgfanljjldcdfaa.Pure
