/- LinesSplit, said over lists alone. -/
import Derived.Test.YtgfanljjldcdfaaExtTells
import Derived.Test.YtgfanljjldcdfaaPAllx4
namespace Go.Proofs.Ytgfanljjldcdfaa.Pure
open Go.RowKit Go.Proofs.Ytgfanljjldcdfaa.PAll Go.Proofs.YtgfanljjldcdfaaW.PrintWords Go.Proofs.YtgfanljjldcdfaaW.PrintLast
/-- How many cells the first lines have. -/
def sumN (l : List S32) : Nat → Nat
  | 0 => 0
  | i + 1 => sumN l i + (l.getD i z32).f0.length
theorem join_len_go (l : List S32) : ∀ i, i ≤ l.length → (joinP (l.take i)).length ≤ sumN l i + i
  | 0, _ => by simp [joinP]
  | i + 1, h => by
    have hi : i < l.length := by omega
    have h1 := join_len_go l i (by omega)
    have ht : (tailP l[i]).length ≤ 1 := by unfold tailP; split <;> simp
    rw [List.take_succ_eq_append_getElem hi, joinP_append]
    simp only [joinP, List.length_append, List.length_nil, sumN, List.getD_eq_getElem?_getD, List.getElem?_eq_getElem hi, Option.getD_some]
    omega
theorem join_len (l : List S32) : (joinP l).length ≤ sumN l l.length + l.length := by
  have := join_len_go l l.length (Nat.le_refl _)
  rwa [List.take_length] at this
theorem ref_join_go (xs : List S32) (hl : xs.length ≤ 1000000) (hj : (joinP xs).length < 35184372088832) : ∀ (d i : Nat), i ≤ xs.length → xs.length - i = d → Ev (fun k => redactorref05_Join.l0 k xs (joinP (xs.take i)) (i : Int)) (joinP xs) := by
  intro d
  induction d with
  | zero =>
    intro i h1 h2
    obtain rfl : i = xs.length := by omega
    rw [List.take_length]
    exact Ev.step (f := fun _ => some (joinP xs)) (fun k => by simp only [redactorref05_Join.l0]; rw [if_neg (by omega)]) (Ev.now _)
  | succ d ih =>
    intro i h1 h2
    have hi : i < xs.length := by omega
    have h := ih (i + 1) (by omega) (by omega)
    have hw : wrap64 ((i : Int) + 1) = ((i + 1 : Nat) : Int) := by rw [w64 (by omega) (by omega)]; rfl
    have e1 : joinP (xs.take (i + 1)) = joinP (xs.take i) ++ (xs[i].f0 ++ tailP xs[i]) := by
      rw [List.take_succ_eq_append_getElem hi, joinP_append]
      simp [joinP]
    have e2 : joinP xs = joinP (xs.take (i + 1)) ++ joinP (xs.drop (i + 1)) := by rw [← joinP_append, List.take_append_drop]
    have e3 : (joinP xs).length = (joinP (xs.take i)).length + (xs[i].f0.length + (tailP xs[i]).length) + (joinP (xs.drop (i + 1))).length := by rw [e2, e1]; simp; omega
    refine Ev.step (fun k => ?_) h
    simp only [redactorref05_Join.l0]
    rw [if_pos (by omega), if_pos (by omega), t32_at xs i hi, if_pos (by omega), Option.bind_some, hw, e1]
    by_cases hb : xs[i].f1 = true
    · have ht : tailP xs[i] = [10] := by unfold tailP; rw [if_pos hb]
      rw [ht] at e3 ⊢
      rw [if_pos hb, if_pos (by simp at e3 ⊢; omega), List.append_assoc]
    · have ht : tailP xs[i] = [] := by unfold tailP; rw [if_neg hb]
      rw [ht, if_neg hb, List.append_nil]
theorem sum_le {B : Nat} (l : List S32) (hm : ∀ y ∈ l, y.f0.length ≤ B) : ∀ i, i ≤ l.length → sumN l i ≤ i * B
  | 0, _ => by simp [sumN]
  | i + 1, h => by
    have hi : i < l.length := by omega
    have h1 := sum_le l hm i (by omega)
    have h2 := hm _ (List.getElem_mem hi)
    simp only [sumN, List.getD_eq_getElem?_getD, List.getElem?_eq_getElem hi, Option.getD_some]
    rw [Nat.add_mul, Nat.one_mul]
    omega
theorem sum_small (l : List S32) (hl : l.length ≤ 20) (hm : ∀ y ∈ l, y.f0.length * 4 ≤ 140737488351232) (i : Nat) (hi : i ≤ l.length) : sumN l i ≤ 1000000000000000 := by
  have h := sum_le (B := 35184372088832) l (fun y hy => by have := hm y hy; omega) i hi
  have h2 : i * 35184372088832 ≤ 20 * 35184372088832 := Nat.mul_le_mul_right _ (by omega)
  omega
theorem tells_some (l : List Int) (a : Int) (h : l.length ≤ 1000) : redactorlaw05_tells.f l a = some true := by unfold redactorlaw05_tells.f; rw [if_pos h]
theorem split_end (l0 : List Int) (l1 : List S32) (l2 : List Int) (a3 a4 : Int) (h0 : l0.length ≤ 200) (h1 : l1.length ≤ 20) (g3 : sumN l1 l1.length ≤ 1000000000000000) (hb : l2.length * 1 ≤ 140737488351232) (hu : ∀ x ∈ l2, (Lit.int .u8 x).wf = true) :
    Ev (fun k => redactorlaw05_LinesSplit.l0 k l0 l1 l2 a3 a4 (sumN l1 l1.length : Int) (l1.length : Int)) true := by
  by_cases hs : sumN l1 l1.length ≤ 300
  · obtain ⟨x, hx, hx60⟩ := cells_ev l2 hb hu
    have hw : wrap64 ((x.length : Int) + 3) = (x.length : Int) + 3 := w64 (by omega) (by omega)
    have hjl := join_len l1
    refine Ev.step (f := fun k => (redactorlaw01_Cells.f k l2).bind fun t241 => ((redactorlaw05_tells.f l0 a3).bind fun t244 => (if t244 = true then (if (wrap64 ((t241.length : Int) + 3)) = 0 then (none) else ((redactorlaw05_tells.f t241 (wrap64 ((Int.tmod (wrap64 (a4)) (wrap64 ((t241.length : Int) + 3))) - 1))).bind fun t245 => (if t245 = true then ((lines_Join.f k l1).bind fun t246 => ((redactorref05_Join.f k l1).bind fun t249 => ((redactorref01_Same.f k t246 t249).bind fun t252 => (some t252)))) else (some false)))) else (some false)))) (fun k => by simp only [redactorlaw05_LinesSplit.l0]; rw [if_neg (by omega), if_neg (by omega)]) ?_
    refine Ev.bind hx (Ev.congr (f := fun k => (lines_Join.f k l1).bind fun t246 => ((redactorref05_Join.f k l1).bind fun t249 => ((redactorref01_Same.f k t246 t249).bind fun t252 => (some t252)))) (fun k => ?_) ?_)
    · rw [tells_some l0 a3 (by omega), Option.bind_some, if_pos rfl, hw, if_neg (by omega), tells_some x _ (by omega), Option.bind_some, if_pos rfl]
    refine Ev.bind (join_ev l1 (by omega) (by omega)) ?_
    refine Ev.bind (f := fun k t249 => (redactorref01_Same.f k (joinP l1) t249).bind fun t252 => some t252) (a := joinP l1) ?_ ?_
    · exact ref_join_go l1 (by omega) (by omega) _ 0 (Nat.zero_le _) rfl
    · exact Ev.bind (same_ev (joinP l1) (by omega)) (Ev.now _)
  · exact Ev.step (f := fun _ => some true) (fun k => by simp only [redactorlaw05_LinesSplit.l0]; rw [if_neg (by omega), if_pos (by omega)]) (Ev.now _)
theorem split_go (l0 : List Int) (l1 : List S32) (l2 : List Int) (a3 a4 : Int) (h0 : l0.length ≤ 200) (h1 : l1.length ≤ 20) (hm : ∀ y ∈ l1, y.f0.length * 4 ≤ 140737488351232) (hb : l2.length * 1 ≤ 140737488351232) (hu : ∀ x ∈ l2, (Lit.int .u8 x).wf = true) :
    ∀ (d i : Nat), i ≤ l1.length → l1.length - i = d → Ev (fun k => redactorlaw05_LinesSplit.l0 k l0 l1 l2 a3 a4 (sumN l1 i : Int) (i : Int)) true := by
  intro d
  induction d with
  | zero =>
    intro i g1 g2
    have g3 := sum_small l1 h1 hm i g1
    obtain rfl : i = l1.length := by omega
    exact split_end l0 l1 l2 a3 a4 h0 h1 g3 hb hu
  | succ d ih =>
    intro i g1 g2
    have g3 := sum_small l1 h1 hm i g1
    have hi : i < l1.length := by omega
    have g4 := sum_small l1 h1 hm (i + 1) (by omega)
    have hs : sumN l1 (i + 1) = sumN l1 i + l1[i].f0.length := by
      simp only [sumN, List.getD_eq_getElem?_getD, List.getElem?_eq_getElem hi, Option.getD_some]
    have h := ih (i + 1) (by omega) (by omega)
    have hw : wrap64 ((i : Int) + 1) = ((i + 1 : Nat) : Int) := by rw [w64 (by omega) (by omega)]; rfl
    have hw2 : wrap64 ((sumN l1 i : Int) + (l1[i].f0.length : Int)) = ((sumN l1 (i + 1) : Nat) : Int) := by rw [w64 (by omega) (by omega), hs, Int.natCast_add]
    refine Ev.step (fun k => ?_) h
    simp only [redactorlaw05_LinesSplit.l0]
    rw [if_pos (by omega), if_pos (by omega), t32_at l1 i hi, hw, hw2]
theorem LinesSplit (l0 : List Int) (l1 : List S32) (l2 : List Int) (a3 a4 : Int) (hm : ∀ y ∈ l1, y.f0.length * 4 ≤ 140737488351232) (hb : l2.length * 1 ≤ 140737488351232) (hu : ∀ x ∈ l2, (Lit.int .u8 x).wf = true) : ∃ k, redactorlaw05_LinesSplit.f k l0 l1 l2 a3 a4 = some true := by
  refine Ev.rounds (g := fun k => redactorlaw05_LinesSplit.f k l0 l1 l2 a3 a4) (r := true) ?_
  unfold redactorlaw05_LinesSplit.f
  have hj : Ev (fun k => redactorlaw05_LinesSplit.j0 k l0 l1 l2 a3 a4 true) true :=
    Ev.step (f := fun k => (redactorlaw05_known.f k).bind fun t239 => (some t239)) (fun k => by simp [redactorlaw05_LinesSplit.j0]) (Ev.bind known_ev (Ev.now _))
  by_cases h0 : (l0.length : Int) > 200
  · simp only [if_pos h0]; exact hj
  by_cases h1 : (l1.length : Int) > 20
  · simp only [if_neg h0, if_pos h1]; exact hj
  simp only [if_neg h0, if_neg h1]
  refine Ev.bind known_ev ?_
  refine Ev.step (f := fun k => redactorlaw05_LinesSplit.l0 k l0 l1 l2 a3 a4 0 0) (fun k => by simp [redactorlaw05_LinesSplit.j0]) ?_
  exact split_go l0 l1 l2 a3 a4 (by omega) (by omega) hm hb hu _ 0 (Nat.zero_le _) rfl
end Go.Proofs.Ytgfanljjldcdfaa.Pure
