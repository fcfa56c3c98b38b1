/- Laws on Resolve in plain Lean: labels, from ahead and from behind. -/
import Derived.Test.YtgennlcbmepchaaExtPure2
namespace Go.Proofs.Ytgennlcbmepchaa.PAll

/-- The command at place i: a label at place p, else one that asks for it, or for the end. -/
def labAt (s : ByteArray) (p i : Nat) : S32 := if i = p then cmdL 58 s 0 else if i % 3 = 1 then cmdL 116 ByteArray.empty 0 else cmdL 98 s 0
def labL (s : ByteArray) (p k : Nat) : List S32 := (List.range k).map (labAt s p)
theorem labL_succ (s : ByteArray) (p k : Nat) : labL s p k ++ [labAt s p k] = labL s p (k + 1) := by simp [labL, List.range_succ]
theorem labL_length (s : ByteArray) (p k : Nat) : (labL s p k).length = k := by simp [labL]
theorem labL_at {s : ByteArray} {p k i : Nat} (h : i < k) : at32 (labL s p k) i = labAt s p i := by
  refine at_of ?_
  unfold labL
  rw [List.getElem?_map, List.getElem?_range h]
  rfl
/-- Where a command leads. -/
def wantAt (p n i : Nat) : Int := if i = p then 0 else if i % 3 = 1 then n else p
theorem lab_notes {s : ByteArray} {p n : Nat} : ∀ a, a ≤ n → notesJ (labL s p n) a js0 0 = .ok ⟨fun _ => 0, [], if p < a then [(s, (p : Int))] else []⟩
  | 0, _ => rfl
  | a + 1, h => by
    refine notesJ_snoc (lab_notes a (by omega)) ?_
    have e : 0 + a = a := Nat.zero_add a
    rw [e]
    unfold noteJ
    rw [labL_at (by omega)]
    unfold labAt
    by_cases h1 : a = p
    · subst h1
      have e1 : ¬ a < a := by omega
      have e2 : a < a + 1 := by omega
      simp only [if_true, e1, e2, if_false]
      rfl
    · have e1 : (p < a + 1) = (p < a) := propext ⟨fun h => by omega, fun h => by omega⟩
      simp only [h1, if_false, e1]
      by_cases h2 : a % 3 = 1
      · rw [if_pos h2]
        rfl
      · rw [if_neg h2]
        rfl
theorem lab_has (s : ByteArray) (v : Int) : hasLab [(s, v)] s = true ∧ getLab [(s, v)] s = v := by simp [hasLab, getLab]
theorem toList_ne {s : ByteArray} (h : s.size ≠ 0) : s.toList.isEmpty = false := by
  cases hs : s.toList with
  | cons a l => rfl
  | nil =>
    exfalso
    apply h
    have h1 : s.toList = s.data.toList := by
      first | exact ByteArray.toList_eq .. | exact ByteArray.toList_data .. | simp
    rw [hs] at h1
    show s.data.size = 0
    rw [← Array.length_toList, ← h1]
    rfl
theorem leadsJ_snoc {l : List S32} {lb : List (ByteArray × Int)} : ∀ (a : Nat) (J J1 J2 : Nat → Int) (i : Nat), leadsJ l lb a J i = .ok J1 → leadJ l lb J1 (i + a) = .ok J2 → leadsJ l lb (a + 1) J i = .ok J2
  | 0, J, J1, J2, i, h, h1 => by
    have : J = J1 := Except.ok.inj h
    subst this
    simp only [leadsJ]
    have e : leadJ l lb J i = .ok J2 := h1
    rw [e]
  | a + 1, J, J1, J2, i, h, h1 => by
    unfold leadsJ at h
    cases hq : leadJ l lb J i with
    | error x => rw [hq] at h; cases h
    | ok r =>
      rw [hq] at h
      have := leadsJ_snoc a r J1 J2 (i + 1) h (by rw [show i + 1 + a = i + (a + 1) by omega]; exact h1)
      unfold leadsJ
      rw [hq]
      exact this
theorem lab_leads {s : ByteArray} {p n : Nat} (hs : s.size ≠ 0) : ∀ a, a ≤ n → leadsJ (labL s p n) [(s, (p : Int))] a (fun _ => 0) 0 = .ok (fun i => if i < a then wantAt p n i else 0)
  | 0, _ => rfl
  | a + 1, h => by
    refine leadsJ_snoc a _ _ _ _ (lab_leads hs a (by omega)) ?_
    have e : 0 + a = a := Nat.zero_add a
    rw [e]
    unfold leadJ
    rw [labL_at (by omega), labL_length]
    have fin : ∀ v : Int, v = wantAt p n a → upd (fun i => if i < a then wantAt p n i else 0) a v = (fun i => if i < a + 1 then wantAt p n i else 0) := by
      intro v hv
      funext i
      show (if i = a then v else if i < a then wantAt p n i else 0) = _
      by_cases h1 : i = a
      · subst h1; rw [if_pos rfl, if_pos (by omega), hv]
      · rw [if_neg h1]
        by_cases h2 : i < a
        · rw [if_pos h2, if_pos (by omega)]
        · rw [if_neg h2, if_neg (by omega)]
    by_cases h1 : a = p
    · have e0 : labAt s p a = cmdL 58 s 0 := by unfold labAt; rw [if_pos h1]
      have w0 : wantAt p n a = 0 := by unfold wantAt; rw [if_pos h1]
      rw [e0]
      have : (fun i => if i < a then wantAt p n i else 0) = (fun i => if i < a + 1 then wantAt p n i else 0) := by
        rw [← fin 0 w0.symm]
        funext i
        unfold upd
        by_cases h1 : i = a
        · subst h1; rw [if_pos rfl, if_neg (by omega)]
        · rw [if_neg h1]
      rw [← this]
      rfl
    · by_cases h2 : a % 3 = 1
      · have e0 : labAt s p a = cmdL 116 ByteArray.empty 0 := by unfold labAt; rw [if_neg h1, if_pos h2]
        have w0 : wantAt p n a = n := by unfold wantAt; rw [if_neg h1, if_pos h2]
        have h5 : (cmdL 116 ByteArray.empty 0).f5.toList.isEmpty = true := by decide +kernel
        rw [e0, h5, fin n w0.symm]
        rw [if_neg (show ¬ ((cmdL 116 ByteArray.empty 0).f3 = 123) from (by decide : ¬ ((116 : Int) = 123))), if_pos (show (cmdL 116 ByteArray.empty 0).f3 = 98 ∨ (cmdL 116 ByteArray.empty 0).f3 = 116 from (by decide : (116 : Int) = 98 ∨ (116 : Int) = 116)), if_pos rfl]
      · have e0 : labAt s p a = cmdL 98 s 0 := by unfold labAt; rw [if_neg h1, if_neg h2]
        have w0 : wantAt p n a = p := by unfold wantAt; rw [if_neg h1, if_neg h2]
        have h5 : (cmdL 98 s 0).f5.toList.isEmpty = false := toList_ne hs
        have h6 : hasLab [(s, (p : Int))] (cmdL 98 s 0).f5 = true := (lab_has s p).1
        have h7 : getLab [(s, (p : Int))] (cmdL 98 s 0).f5 = p := (lab_has s p).2
        rw [e0, h5, h6, h7, fin p w0.symm]
        rw [if_neg (show ¬ ((cmdL 98 s 0).f3 = 123) from (by decide : ¬ ((98 : Int) = 123))), if_pos (show (cmdL 98 s 0).f3 = 98 ∨ (cmdL 98 s 0).f3 = 116 from (by decide : (98 : Int) = 98 ∨ (98 : Int) = 116)), if_neg (by decide), if_pos rfl]
/-- Each is led where it is to. -/
theorem lab_good {s : ByteArray} {p n : Nat} (hs : s.size ≠ 0) (hp : p < n) : ∃ xs, resolveP (labL s p n) = (xs, 0, 0) ∧ xs.length = n ∧ ∀ i, i < n → (at32 xs i).f15 = wantAt p n i := by
  have hn := lab_notes (s := s) (p := p) n (Nat.le_refl _)
  have hl := lab_leads (p := p) (n := n) hs n (Nat.le_refl _)
  rw [if_pos hp] at hn
  have hll := labL_length s p n
  have hn' : notesJ (labL s p n) (labL s p n).length js0 0 = .ok ⟨fun _ => 0, [], [(s, (p : Int))]⟩ := by rw [hll]; exact hn
  have hl' : leadsJ (labL s p n) [(s, (p : Int))] (labL s p n).length (fun _ => 0) 0 = .ok (fun i => if i < n then wantAt p n i else 0) := by rw [hll]; exact hl
  refine ⟨_, resolve_ok hn' hl', by rw [mkL_length, hll], fun i hi => ?_⟩
  rw [mkL_at _ (by rw [hll]; exact hi)]
  show (if i < n then wantAt p n i else 0) = _
  rw [if_pos hi]
theorem labL_sizes {s : ByteArray} {p n : Nat} (h : s.size ≤ 40) : ∀ x ∈ labL s p n, x.f5.size ≤ maxLen := by
  intro x hx
  unfold labL at hx
  obtain ⟨i, _, rfl⟩ := List.mem_map.mp hx
  have hm : 40 ≤ maxLen := by decide
  unfold labAt
  split
  · exact Nat.le_trans h hm
  · split
    · exact Nat.zero_le _
    · exact Nat.le_trans h hm
end Go.Proofs.Ytgennlcbmepchaa.PAll
