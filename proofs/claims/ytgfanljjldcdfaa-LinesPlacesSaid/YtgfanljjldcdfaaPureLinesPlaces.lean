/- LinesPlaces, said over lists alone: places are told line by line. -/
import Derived.Test.YtgfanljjldcdfaaPureA
import Derived.Test.YtgfanljjldcdfaaPAllx6
namespace Go.Proofs.Ytgfanljjldcdfaa.Pure
open Go.RowKit Go.Proofs.Ytgfanljjldcdfaa.PAll Go.Proofs.YtgfanljjldcdfaaW.PrintWords Go.Proofs.YtgfanljjldcdfaaW.PrintLast
theorem rd_natP (l : List Int) (i : Nat) : rd l (i : Int) = l.getD i 0 := by simp [rd]
theorem number_at (x : List Int) (hx : x.length ≤ 60) (i : Nat) (hi : i ≤ x.length) : lines_Number.f x (i : Int) = some ((endsN x i : Int) + 1, (i : Int) - firstN x i + 1) := by
  unfold lines_Number.f
  rw [if_pos (by omega), if_neg (by omega), if_neg (by omega)]
  rfl
theorem places_go (x : List Int) (hx : x.length ≤ 60) : ∀ (d i : Nat), i ≤ x.length → x.length - i = d → Ev (fun k => redactorlaw05_LinesPlaces.l0 k x ((endsN x i : Int) + 1) ((i : Int) - firstN x i + 1) (i : Int)) true := by
  intro d
  induction d with
  | zero =>
    intro i h1 h2
    obtain rfl : i = x.length := by omega
    have hw : wrap64 ((x.length : Int) + 1) = (x.length : Int) + 1 := w64 (by omega) (by omega)
    have hn : lines_Number.f x ((x.length : Int) + 1) = some (0, 0) := by
      unfold lines_Number.f
      rw [if_pos (by omega), if_neg (by omega), if_pos (by omega)]
    refine Ev.step (f := fun k => (redactorlaw05_known.f k).bind fun t300 => (if t300 = true then (if (0 : Int) = 0 then (some ((0 : Int) == 0)) else (some false)) else (some false))) (fun k => by simp only [redactorlaw05_LinesPlaces.l0]; rw [if_neg (by omega), hw, hn, Option.bind_some]; simp) ?_
    exact Ev.bind known_ev (Ev.now _)
  | succ d ih =>
    intro i h1 h2
    have h := ih (i + 1) (by omega) (by omega)
    have he := endsN_le x i
    have hf := firstN_le x i
    have hw : wrap64 ((i : Int) + 1) = ((i + 1 : Nat) : Int) := by rw [w64 (by omega) (by omega)]; rfl
    have hw2 : wrap64 ((endsN x i : Int) + 1 + 1) = ((endsN x i + 1 : Nat) : Int) + 1 := by rw [w64 (by omega) (by omega)]; rfl
    have hw3 : wrap64 ((i : Int) - firstN x i + 1 + 1) = ((i + 1 : Nat) : Int) - firstN x i + 1 := by rw [w64 (by omega) (by omega)]; omega
    refine Ev.step (fun k => ?_) h
    simp only [redactorlaw05_LinesPlaces.l0]
    rw [if_pos (by omega), hw, number_at x hx (i + 1) (by omega), Option.bind_some, if_pos (by omega), rd_natP]
    simp only [endsN, firstN]
    by_cases h10 : x.getD i 0 = 10
    · simp only [if_pos h10]
      rw [if_pos hw2.symm, if_pos (by omega)]
    · simp only [if_neg h10]
      rw [if_pos trivial, if_pos hw3.symm]
theorem LinesPlaces : redactorlaw05_LinesPlaces.Pure := by
  intro l0 hl hb hu
  obtain ⟨x, hx, hx60⟩ := cells_ev l0 hb hu
  refine Ev.rounds (g := fun k => redactorlaw05_LinesPlaces.f k l0) (r := true) ?_
  unfold redactorlaw05_LinesPlaces.f
  refine Ev.bind hx ?_
  have hn := number_at x hx60 0 (Nat.zero_le _)
  have hn' : lines_Number.f x 0 = some (1, 1) := hn
  simp only [hn', Option.bind_some, if_true]
  refine Ev.step (f := fun k => redactorlaw05_LinesPlaces.l0 k x 1 1 0) (fun k => by simp only [redactorlaw05_LinesPlaces.j0]; rw [if_neg (by decide)]) ?_
  exact places_go x hx60 _ 0 (Nat.zero_le _) rfl
end Go.Proofs.Ytgfanljjldcdfaa.Pure
