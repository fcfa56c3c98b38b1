/- Laws on Resolve in plain Lean: steps put together. -/
import Derived.Test.YtgennlcbmepchaaExtPure
namespace Go.Proofs.Ytgennlcbmepchaa.PAll

/-- A command: its sign, its label, its place. -/
def cmdL (op : Int) (lab : ByteArray) (p : Int) : S32 := { z32 with f3 := op, f5 := lab, f16 := p }
theorem notesJ_snoc {l : List S32} {a : Nat} {s r r' : JSt} {i : Nat} (h : notesJ l a s i = .ok r) (h1 : noteJ l r (i + a) = .ok r') : notesJ l (a + 1) s i = .ok r' := by
  rw [notesJ_add l a 1 s r i h]
  simp only [notesJ, h1]
theorem notesJ_fail {l : List S32} {a b : Nat} {s r : JSt} {i : Nat} {e : Int} (h : notesJ l a s i = .ok r) (h1 : noteJ l r (i + a) = .error e) : notesJ l (a + (b + 1)) s i = .error (e, (at32 l (i + a)).f16) := by
  rw [notesJ_add l a (b + 1) s r i h]
  simp only [notesJ, h1]
theorem leadsJ_same {l : List S32} {lb : List (ByteArray × Int)} {J : Nat → Int} : ∀ (d i : Nat), (∀ j, i ≤ j → j < i + d → leadJ l lb J j = .ok J) → leadsJ l lb d J i = .ok J
  | 0, i, _ => rfl
  | d + 1, i, h => by
    simp only [leadsJ, h i (Nat.le_refl _) (by omega)]
    exact leadsJ_same d (i + 1) (fun j h1 h2 => h j (by omega) (by omega))
theorem opens {l : List S32} {m : Nat} (hO : ∀ i, i < m → (at32 l i).f3 = 123) : ∀ a, a ≤ m → notesJ l a js0 0 = .ok ⟨fun i => if i < a then -1 else 0, List.range a, []⟩
  | 0, _ => by simp [notesJ, js0]
  | a + 1, h => by
    refine notesJ_snoc (opens hO a (by omega)) ?_
    unfold noteJ
    rw [if_pos (hO _ (by omega)), Nat.zero_add, List.range_succ]
    congr 2
    funext i
    show (if i = a then (-1 : Int) else if i < a then -1 else 0) = _
    by_cases h1 : i = a
    · rw [if_pos h1, if_pos (by omega)]
    · rw [if_neg h1]
      by_cases h2 : i < a
      · rw [if_pos h2, if_pos (by omega)]
      · rw [if_neg h2, if_neg (by omega)]
theorem closes {l : List S32} {m : Nat} (hO : ∀ i, i < m → (at32 l i).f3 = 123) : ∀ b, b ≤ m → (∀ i, m ≤ i → i < m + b → (at32 l i).f3 = 125) → notesJ l (m + b) js0 0 = .ok ⟨fun i => if i < m - b then -1 else if i < m then 2 * (m : Int) - 1 - i else 0, List.range (m - b), []⟩
  | 0, _, _ => by
    rw [Nat.add_zero, opens hO m (Nat.le_refl _), Nat.sub_zero]
    congr 2
    funext i
    by_cases h : i < m
    · rw [if_pos h, if_pos h]
    · rw [if_neg h, if_neg h, if_neg h]
  | b + 1, h, hC => by
    refine notesJ_snoc (r := ⟨fun i => if i < m - b then -1 else if i < m then 2 * (m : Int) - 1 - i else 0, List.range (m - b), []⟩) (closes hO b (by omega) (fun i h1 h2 => hC i h1 (by omega))) ?_
    unfold noteJ
    have e2 : m.add b + 0 = m + b := rfl
    have e3 : 0 + m.add b = m + b := Nat.zero_add _
    have e := hC (m + b) (by omega) (by omega)
    simp only [e3]
    rw [if_neg (by rw [e]; decide), if_pos e]
    obtain ⟨c, hc⟩ : ∃ c, m - b = c + 1 := ⟨m - b - 1, by omega⟩
    have hc2 : m - (b + 1) = c := by omega
    simp only [hc, hc2, List.range_succ, List.getLast?_append, List.getLast?_singleton, Option.some_or, List.dropLast_concat]
    congr 2
    funext i
    show (if i = c then ((m + b : Nat) : Int) else if i < c + 1 then -1 else if i < m then 2 * (m : Int) - 1 - i else 0) = _
    by_cases h1 : i = c
    · rw [if_pos h1, if_neg (by omega), if_pos (by omega)]
      omega
    · rw [if_neg h1]
      by_cases h2 : i < c
      · rw [if_pos (by omega), if_pos h2]
      · rw [if_neg (by omega), if_neg h2]

/-- Blocks within one another. -/
def deepL (m : Nat) : List S32 := (List.range m).map (fun (i : Nat) => cmdL 123 ByteArray.empty i) ++ (List.range m).map (fun (j : Nat) => cmdL 125 ByteArray.empty (m + j))
theorem deepL_length (m : Nat) : (deepL m).length = 2 * m := by simp [deepL]; omega
theorem at_of {l : List S32} {i : Nat} {x : S32} (h : l[i]? = some x) : at32 l i = x := by
  unfold at32
  rw [List.getD_eq_getElem?_getD, h]
  rfl
theorem deepL_open {m i : Nat} (h : i < m) : (deepL m)[i]? = some (cmdL 123 ByteArray.empty i) := by
  unfold deepL
  rw [List.getElem?_append_left (by simpa using h), List.getElem?_map, List.getElem?_range h]
  rfl
theorem deepL_close {m i : Nat} (h1 : m ≤ i) (h2 : i < 2 * m) : (deepL m)[i]? = some (cmdL 125 ByteArray.empty i) := by
  unfold deepL
  rw [List.getElem?_append_right (by simpa using h1), List.getElem?_map, List.length_map, List.length_range, List.getElem?_range (by omega)]
  simp only [Option.map_some]
  congr 2
  omega
theorem leadJ_deep {l : List S32} {J : Nat → Int} {i : Nat} (h : (at32 l i).f3 = 123 ∧ 0 ≤ J i ∨ (at32 l i).f3 = 125) : leadJ l [] J i = .ok J := by
  unfold leadJ
  rcases h with ⟨h1, h2⟩ | h1
  · rw [if_pos h1, if_neg (by omega)]
  · rw [if_neg (by rw [h1]; decide), if_neg (by rw [h1]; decide)]
/-- They lead each to its own end. -/
theorem deep_good (m : Nat) : ∃ xs, resolveP (deepL m) = (xs, 0, 0) ∧ xs.length = 2 * m ∧ ∀ i, i < m → (at32 xs i).f15 = 2 * (m : Int) - 1 - i := by
  have hn := closes (l := deepL m) (m := m) (fun i h => by rw [at_of (deepL_open h)]; rfl) m (Nat.le_refl _) (fun i h1 h2 => by rw [at_of (deepL_close h1 (by omega))]; rfl)
  rw [← Nat.two_mul, ← deepL_length m, Nat.sub_self] at hn
  refine ⟨_, resolve_ok hn (leadsJ_same _ _ (fun j h1 h2 => leadJ_deep ?_)), by rw [mkL_length, deepL_length], fun i hi => ?_⟩
  · rw [deepL_length] at h2
    by_cases h : j < m
    · left
      refine ⟨by rw [at_of (deepL_open h)]; rfl, ?_⟩
      show (0 : Int) ≤ if j < 0 then -1 else if j < m then _ else 0
      rw [if_neg (by omega), if_pos h]
      omega
    · right
      rw [at_of (deepL_close (by omega) (by omega))]; rfl
  · rw [mkL_at _ (by rw [deepL_length]; omega)]
    show (if i < 0 then (-1 : Int) else if i < m then 2 * (m : Int) - 1 - i else 0) = _
    rw [if_neg (by omega), if_pos hi]
/-- One end too few is told. -/
theorem deep_few {m : Nat} (hm : 0 < m) : resolveP ((deepL m).take (2 * m - 1)) = ([], 51, 0) := by
  have hl : ((deepL m).take (2 * m - 1)).length = m + (m - 1) := by rw [List.length_take, deepL_length]; omega
  have ho : ∀ i, i < m → ((deepL m).take (2 * m - 1))[i]? = some (cmdL 123 ByteArray.empty i) := fun i h => by rw [List.getElem?_take_of_lt (by omega)]; exact deepL_open h
  have hn := closes (l := (deepL m).take (2 * m - 1)) (m := m) (fun i h => by rw [at_of (ho i h)]; rfl) (m - 1) (by omega) (fun i h1 h2 => by rw [at_of (by rw [List.getElem?_take_of_lt (by omega)]; exact deepL_close h1 (by omega))]; rfl)
  rw [← hl] at hn
  refine resolve_err2 hn ?_
  obtain ⟨d, hd⟩ : ∃ d, ((deepL m).take (2 * m - 1)).length = d + 1 := ⟨m + (m - 1) - 1, by omega⟩
  have h0 := at_of (ho 0 hm)
  rw [hd]
  have hJ : leadJ ((deepL m).take (2 * m - 1)) [] (fun i => if i < m - (m - 1) then -1 else if i < m then 2 * (m : Int) - 1 - i else 0) 0 = .error 51 := by
    unfold leadJ
    rw [if_pos (by rw [h0]; rfl)]
    show (if (if 0 < m - (m - 1) then (-1 : Int) else _) < 0 then _ else _) = _
    rw [if_pos (by rw [if_pos (by omega)]; decide)]
  simp only [leadsJ, hJ, h0]
  rfl
/-- One end too many, too. -/
theorem deep_many (m : Nat) (p : Int) : resolveP (deepL m ++ [cmdL 125 ByteArray.empty p]) = ([], 51, p) := by
  have ho : ∀ i, i < 2 * m → (deepL m ++ [cmdL 125 ByteArray.empty p])[i]? = (deepL m)[i]? := fun i h => List.getElem?_append_left (by rw [deepL_length]; exact h)
  have hx : (deepL m ++ [cmdL 125 ByteArray.empty p])[2 * m]? = some (cmdL 125 ByteArray.empty p) := by
    rw [List.getElem?_append_right (by rw [deepL_length]; omega), deepL_length, Nat.sub_self]; rfl
  have hn := closes (l := deepL m ++ [cmdL 125 ByteArray.empty p]) (m := m) (fun i h => by rw [at_of (by rw [ho i (by omega)]; exact deepL_open h)]; rfl) m (Nat.le_refl _) (fun i h1 h2 => by rw [at_of (by rw [ho i (by omega)]; exact deepL_close h1 (by omega))]; rfl)
  have hl : (deepL m ++ [cmdL 125 ByteArray.empty p]).length = m + m + (0 + 1) := by rw [List.length_append, deepL_length]; simp; omega
  have e2 : 0 + (m + m) = 2 * m := by omega
  have := notesJ_fail (b := 0) (e := 51) hn (by
    rw [e2]
    unfold noteJ
    rw [if_neg (by rw [at_of hx]; show ¬((125 : Int) = 123); decide), if_pos (by rw [at_of hx]; rfl), Nat.sub_self]
    rfl)
  rw [← hl, e2, at_of hx] at this
  exact resolve_err1 this
theorem deep_sizes {l : List S32} (h : ∀ x ∈ l, x.f5 = ByteArray.empty) : ∀ x ∈ l, x.f5.size ≤ maxLen := fun x hx => by rw [h x hx]; decide
theorem deepL_labs (m : Nat) : ∀ x ∈ deepL m, x.f5 = ByteArray.empty := by
  intro x hx
  unfold deepL at hx
  simp only [List.mem_append, List.mem_map] at hx
  rcases hx with ⟨i, _, rfl⟩ | ⟨i, _, rfl⟩ <;> rfl
theorem f_of {l : List S32} {r : List S32 × Int × Int} (h : resolveP l = r) (hl : l.length < 475464487686) (hs : ∀ x ∈ l, x.f5.size ≤ maxLen) : flat_Resolve.f l = some r := by
  unfold flat_Resolve.f
  rw [if_pos ⟨hl, hs⟩, h]
end Go.Proofs.Ytgennlcbmepchaa.PAll
