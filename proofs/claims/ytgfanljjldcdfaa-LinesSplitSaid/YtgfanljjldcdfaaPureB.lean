/- Lines, joined, are the text; a list is the same as itself: in plain Lean, and of the printed functions. -/
import Derived.Test.YtgfanljjldcdfaaPureA
namespace Go.Proofs.Ytgfanljjldcdfaa.Pure
open Go.RowKit Go.Proofs.Ytgfanljjldcdfaa.PAll Go.Proofs.YtgfanljjldcdfaaW.PrintWords Go.Proofs.YtgfanljjldcdfaaW.PrintLast
def tailP (x : S32) : List Int := if x.f1 = true then [10] else []
/-- Lines, joined. -/
def joinP : List S32 → List Int
  | [] => []
  | x :: t => (x.f0 ++ tailP x) ++ joinP t
theorem joinP_append (a b : List S32) : joinP (a ++ b) = joinP a ++ joinP b := by
  induction a with
  | nil => rfl
  | cons x t ih => simp [joinP, ih]
theorem join_split (l : List Int) : joinP (splitP l) = l := by
  induction l with
  | nil => rfl
  | cons c r ih =>
    simp only [splitP]
    split
    · rename_i hc; simp [joinP, tailP, ih, hc]
    · cases h : splitP r with
      | nil => rw [splitP_nil_iff.1 h]; simp [joinP, tailP]
      | cons x t =>
        rw [h] at ih
        simp only [joinP, tailP, List.cons_append] at ih ⊢
        rw [ih]
theorem split_clean (l : List Int) : ∀ y ∈ splitP l, ∀ c ∈ y.f0, c ≠ 10 := by
  induction l with
  | nil => simp [splitP]
  | cons c r ih =>
    simp only [splitP]
    split
    · simpa using ih
    · rename_i hc
      cases h : splitP r with
      | nil => simpa using hc
      | cons x t =>
        rw [h] at ih
        simp only [List.mem_cons, forall_eq_or_imp] at ih ⊢
        exact ⟨⟨hc, ih.1⟩, ih.2⟩
theorem split_open (l : List Int) : ∀ y ∈ splitP l, y.f1 = false → y.f0 ≠ [] := by
  induction l with
  | nil => simp [splitP]
  | cons c r ih =>
    simp only [splitP]
    split
    · simpa using ih
    · cases h : splitP r with
      | nil => simp
      | cons x t =>
        rw [h] at ih
        simp only [List.mem_cons, forall_eq_or_imp] at ih ⊢
        exact ⟨fun _ => by simp, ih.2⟩
theorem split_ended (l : List Int) : ∀ (a : List S32) (y : S32) (b : List S32), splitP l = a ++ y :: b → b ≠ [] → y.f1 = true := by
  induction l with
  | nil => intro a y b h; simp [splitP] at h
  | cons c r ih =>
    intro a y b h hb
    simp only [splitP] at h
    split at h
    · rcases a with _ | ⟨z, a⟩
      · simp at h; rw [← h.1]
      · simp at h; exact ih a y b h.2 hb
    · cases hr : splitP r with
      | nil =>
        rw [hr] at h
        rcases a with _ | ⟨z, a⟩
        · simp at h; exact absurd h.2 (by simpa using hb)
        · simp at h
      | cons x t =>
        rw [hr] at h ih
        rcases a with _ | ⟨z, a⟩
        · simp at h
          rw [← h.1]
          exact ih [] x t rfl (h.2 ▸ hb)
        · simp at h
          exact ih (x :: a) y b (by rw [h.2]; rfl) hb
theorem t32_at (xs : List S32) (i : Nat) (h : i < xs.length) : rd_T32 xs (i : Int) = xs[i] := by
  unfold rd_T32
  rw [List.getD_eq_getElem?_getD, show ((i : Nat) : Int).toNat = i by omega, List.getElem?_eq_getElem h]
  rfl
theorem join_go (xs : List S32) (hl : xs.length ≤ 1000000) (hj : (joinP xs).length < 35184372088832) : ∀ (d i : Nat), i ≤ xs.length → xs.length - i = d → Ev (fun k => lines_Join.l0 k (joinP (xs.take i)) xs (xs.length : Int) (i : Int)) (joinP xs) := by
  intro d
  induction d with
  | zero =>
    intro i h1 h2
    obtain rfl : i = xs.length := by omega
    rw [List.take_length]
    exact Ev.step (f := fun _ => some (joinP xs)) (fun k => by simp only [lines_Join.l0]; rw [if_neg (by omega)]) (Ev.now _)
  | succ d ih =>
    intro i h1 h2
    have hi : i < xs.length := by omega
    have h := ih (i + 1) (by omega) (by omega)
    have hw : wrap64 ((i : Int) + 1) = ((i + 1 : Nat) : Int) := by rw [w64 (by omega) (by omega)]; rfl
    have e1 : joinP (xs.take (i + 1)) = joinP (xs.take i) ++ (xs[i].f0 ++ tailP xs[i]) := by
      rw [List.take_succ_eq_append_getElem hi, joinP_append]
      simp [joinP]
    have e2 : joinP xs = joinP (xs.take (i + 1)) ++ joinP (xs.drop (i + 1)) := by rw [← joinP_append, List.take_append_drop]
    have e3 : (joinP xs).length = (joinP (xs.take i)).length + (xs[i].f0.length + (tailP xs[i]).length) + (joinP (xs.drop (i + 1))).length := by rw [e2, e1]; simp; omega
    refine Ev.step (fun k => ?_) h
    simp only [lines_Join.l0]
    rw [if_pos (by omega), if_pos (by omega), if_pos (by omega), t32_at xs i hi, if_pos (by omega), Option.bind_some, hw, e1]
    by_cases hb : xs[i].f1 = true
    · have ht : tailP xs[i] = [10] := by unfold tailP; rw [if_pos hb]
      rw [ht] at e3 ⊢
      rw [if_pos hb, if_pos (by simp at e3 ⊢; omega), List.append_assoc]
    · have ht : tailP xs[i] = [] := by unfold tailP; rw [if_neg hb]
      rw [ht, if_neg hb, List.append_nil]
theorem join_ev (xs : List S32) (hl : xs.length ≤ 1000000) (hj : (joinP xs).length < 35184372088832) : Ev (fun k => lines_Join.f k xs) (joinP xs) := join_go xs hl hj _ 0 (Nat.zero_le _) rfl
theorem compare_go (x : List Int) (hx : x.length ≤ 1000000000000) : ∀ (d i : Nat), i ≤ x.length → x.length - i = d → Ev (fun k => redactorref01_Compare.l0 k x x (i : Int)) 0 := by
  intro d
  induction d with
  | zero =>
    intro i h1 h2
    obtain rfl : i = x.length := by omega
    refine Ev.step (f := fun k => redactorref01_Compare.j1 k x x (x.length : Int) false) (fun k => by simp only [redactorref01_Compare.l0]; rw [if_neg (by omega)]) ?_
    exact Ev.step (f := fun _ => some 0) (fun k => by simp [redactorref01_Compare.j1]) (Ev.now _)
  | succ d ih =>
    intro i h1 h2
    have h := ih (i + 1) (by omega) (by omega)
    have hw : wrap64 ((i : Int) + 1) = ((i + 1 : Nat) : Int) := by rw [w64 (by omega) (by omega)]; rfl
    refine Ev.step (f := fun k => redactorref01_Compare.j1 k x x (i : Int) true) (fun k => by simp only [redactorref01_Compare.l0]; rw [if_pos (by omega), decide_eq_true (by omega)]) ?_
    refine Ev.step (fun k => ?_) h
    simp only [redactorref01_Compare.j1, if_true]
    rw [if_pos (by omega), if_pos (by omega), if_pos (by omega), if_neg (by omega), if_neg (by omega), hw]
theorem same_ev (x : List Int) (hx : x.length ≤ 1000000000000) : Ev (fun k => redactorref01_Same.f k x x) true := by
  unfold redactorref01_Same.f
  exact Ev.bind (compare_go x hx _ 0 (Nat.zero_le _) rfl) (Ev.now _)
end Go.Proofs.Ytgfanljjldcdfaa.Pure
