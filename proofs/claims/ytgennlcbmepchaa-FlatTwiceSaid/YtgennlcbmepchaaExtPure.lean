/- Resolve in plain Lean once more: what turns is where each command leads, the open places, the labels. -/
import Derived.Test.YtgennlcbmepchaaExtSpec
namespace Go.Proofs.Ytgennlcbmepchaa.PAll

/-- The commands l, each leading where J says. -/
def mkL (l : List S32) (J : Nat → Int) : List S32 := (List.range l.length).map fun i => setJ (at32 l i) (J i)
def upd (J : Nat → Int) (q : Nat) (v : Int) : Nat → Int := fun i => if i = q then v else J i
theorem upd_same (J : Nat → Int) (q : Nat) (v : Int) : upd J q v q = v := by simp [upd]
theorem upd_other (J : Nat → Int) {q i : Nat} (h : i ≠ q) (v : Int) : upd J q v i = J i := by simp [upd, h]
theorem mkL_length (l : List S32) (J : Nat → Int) : (mkL l J).length = l.length := by simp [mkL]
theorem mkL_at {l : List S32} (J : Nat → Int) {i : Nat} (h : i < l.length) : at32 (mkL l J) i = setJ (at32 l i) (J i) := by
  unfold at32 mkL
  rw [List.getD_eq_getElem?_getD, List.getElem?_map, List.getElem?_range h]
  rfl
theorem list_at {l : List S32} {i : Nat} (h : i < l.length) : l[i]? = some (at32 l i) := by
  unfold at32
  rw [List.getD_eq_getElem?_getD, List.getElem?_eq_getElem h]
  rfl
theorem at_ext {a b : List S32} (hl : a.length = b.length) (h : ∀ i, i < a.length → at32 a i = at32 b i) : a = b := by
  apply List.ext_getElem?
  intro i
  by_cases hi : i < a.length
  · rw [list_at hi, list_at (by omega), h i hi]
  · rw [List.getElem?_eq_none (by omega), List.getElem?_eq_none (by omega)]
theorem mkL_zero (l : List S32) : l.map (setJ · 0) = mkL l (fun _ => 0) := by
  refine at_ext (by simp [mkL]) (fun i hi => ?_)
  have hi' : i < l.length := by simpa using hi
  rw [mkL_at _ hi']
  unfold at32
  simp [List.getD_eq_getElem?_getD, hi']
theorem at_set {l : List S32} {q i : Nat} (hq : q < l.length) (x : S32) : at32 (l.set q x) i = if i = q then x else at32 l i := by
  unfold at32
  rw [List.getD_eq_getElem?_getD, List.getD_eq_getElem?_getD]
  by_cases e : i = q
  · subst e; simp [hq]
  · rw [if_neg e, List.getElem?_set_ne (Ne.symm e)]
theorem mkL_set {l : List S32} (J : Nat → Int) {q : Nat} (hq : q < l.length) (v : Int) : (mkL l J).set q (setJ (at32 (mkL l J) q) v) = mkL l (upd J q v) := by
  refine at_ext (by simp [mkL]) (fun i hi => ?_)
  have hi' : i < l.length := by simpa [mkL] using hi
  rw [at_set (by rw [mkL_length]; exact hq), mkL_at _ hi', mkL_at _ hq, mkL_at _ hi']
  by_cases e : i = q
  · subst e; rw [if_pos rfl, upd_same]; rfl
  · rw [if_neg e, upd_other _ e]

structure JSt where
  J : Nat → Int
  op : List Nat
  lb : List (ByteArray × Int)
def JSt.st (l : List S32) (s : JSt) : RSt := ⟨mkL l s.J, s.op, s.lb⟩
def noteJ (l : List S32) (s : JSt) (i : Nat) : Except Int JSt :=
  if (at32 l i).f3 = 123 then .ok ⟨upd s.J i (-1), s.op ++ [i], s.lb⟩
  else if (at32 l i).f3 = 125 then
    match s.op.getLast? with
    | none => .error 51
    | some q => .ok ⟨upd s.J q i, s.op.dropLast, s.lb⟩
  else if (at32 l i).f3 = 58 then if hasLab s.lb (at32 l i).f5 then .error 32 else .ok ⟨s.J, s.op, s.lb ++ [((at32 l i).f5, (i : Int))]⟩
  else .ok s
def leadJ (l : List S32) (lb : List (ByteArray × Int)) (J : Nat → Int) (i : Nat) : Except Int (Nat → Int) :=
  if (at32 l i).f3 = 123 then if J i < 0 then .error 51 else .ok J
  else if (at32 l i).f3 = 98 ∨ (at32 l i).f3 = 116 then
    if (at32 l i).f5.toList.isEmpty then .ok (upd J i l.length)
    else if hasLab lb (at32 l i).f5 then .ok (upd J i (getLab lb (at32 l i).f5)) else .error 50
  else .ok J
def notesJ (l : List S32) : Nat → JSt → Nat → Except (Int × Int) JSt
  | 0, s, _ => .ok s
  | d + 1, s, i => match noteJ l s i with
    | .error e => .error (e, (at32 l i).f16)
    | .ok s' => notesJ l d s' (i + 1)
def leadsJ (l : List S32) (lb : List (ByteArray × Int)) : Nat → (Nat → Int) → Nat → Except (Int × Int) (Nat → Int)
  | 0, J, _ => .ok J
  | d + 1, J, i => match leadJ l lb J i with
    | .error e => .error (e, (at32 l i).f16)
    | .ok J' => leadsJ l lb d J' (i + 1)
/-- Every open place is one of the first n. -/
def OpOk (n : Nat) (op : List Nat) : Prop := ∀ q ∈ op, q < n
theorem noteJ_ok {l : List S32} {s r : JSt} {i : Nat} (hi : i < l.length) (ho : OpOk l.length s.op) (h : noteJ l s i = .ok r) : OpOk l.length r.op := by
  unfold noteJ at h
  split at h
  · cases h
    intro q hq
    simp at hq
    rcases hq with hq | rfl
    · exact ho q hq
    · exact hi
  · split at h
    · split at h
      · cases h
      · cases h
        exact fun q hq => ho q (List.dropLast_subset _ hq)
    · split at h
      · split at h
        · cases h
        · cases h; exact ho
      · cases h; exact ho
theorem noteP_mk {l : List S32} {s : JSt} {i : Nat} (hi : i < l.length) (ho : OpOk l.length s.op) : noteP (s.st l) i = (noteJ l s i).map (JSt.st l) := by
  unfold noteP noteJ JSt.st
  simp only [mkL_at _ hi]
  show (if (at32 l i).f3 = 123 then _ else if (at32 l i).f3 = 125 then _ else if (at32 l i).f3 = 58 then (if hasLab s.lb (at32 l i).f5 then _ else _) else _) = _
  by_cases e1 : (at32 l i).f3 = 123
  · rw [if_pos e1, if_pos e1]
    have := mkL_set s.J hi (-1)
    rw [mkL_at _ hi] at this
    simp only [Except.map, this]
  · rw [if_neg e1, if_neg e1]
    by_cases e2 : (at32 l i).f3 = 125
    · rw [if_pos e2, if_pos e2]
      cases hq : s.op.getLast? with
      | none => simp [Except.map]
      | some q =>
        have hql := ho q (List.mem_of_getLast? hq)
        simp only [Except.map, mkL_set s.J hql]
    · rw [if_neg e2, if_neg e2]
      by_cases e3 : (at32 l i).f3 = 58
      · rw [if_pos e3, if_pos e3]
        by_cases e4 : hasLab s.lb (at32 l i).f5 = true
        · rw [if_pos e4, if_pos e4]; rfl
        · rw [if_neg e4, if_neg e4]; rfl
      · rw [if_neg e3, if_neg e3]; rfl
theorem leadP_mk {l : List S32} {lb : List (ByteArray × Int)} {J : Nat → Int} {i : Nat} (hi : i < l.length) : leadP lb (mkL l J) i = (leadJ l lb J i).map (mkL l) := by
  unfold leadP leadJ
  simp only [mkL_at _ hi]
  show (if (at32 l i).f3 = 123 then (if J i < 0 then _ else _) else if (at32 l i).f3 = 98 ∨ (at32 l i).f3 = 116 then (if (at32 l i).f5.toList.isEmpty then _ else if hasLab lb (at32 l i).f5 then _ else _) else _) = _
  by_cases e1 : (at32 l i).f3 = 123
  · rw [if_pos e1, if_pos e1]
    by_cases e2 : J i < 0
    · rw [if_pos e2, if_pos e2]; rfl
    · rw [if_neg e2, if_neg e2]; rfl
  · rw [if_neg e1, if_neg e1]
    by_cases e2 : (at32 l i).f3 = 98 ∨ (at32 l i).f3 = 116
    · rw [if_pos e2, if_pos e2]
      have hs := fun v => mkL_set J hi v
      simp only [mkL_at _ hi] at hs
      by_cases e3 : (at32 l i).f5.toList.isEmpty = true
      · rw [if_pos e3, if_pos e3, hs, mkL_length]; rfl
      · rw [if_neg e3, if_neg e3]
        by_cases e4 : hasLab lb (at32 l i).f5 = true
        · rw [if_pos e4, if_pos e4]
          show Except.ok ((mkL l J).set i (setJ (setJ (at32 l i) (J i)) (getLab lb (at32 l i).f5))) = _
          rw [hs]; rfl
        · rw [if_neg e4, if_neg e4]; rfl
    · rw [if_neg e2, if_neg e2]; rfl
theorem notes_mk {l : List S32} : ∀ (d : Nat) (s : JSt) (i : Nat), i + d ≤ l.length → OpOk l.length s.op → notes l d (s.st l) i = (notesJ l d s i).map (JSt.st l)
  | 0, s, i, _, _ => rfl
  | d + 1, s, i, h, ho => by
    unfold notes notesJ
    rw [noteP_mk (by omega) ho]
    cases hn : noteJ l s i with
    | error e => rfl
    | ok r => exact notes_mk d r (i + 1) (by omega) (noteJ_ok (by omega) ho hn)
theorem leads_mk {l : List S32} {lb : List (ByteArray × Int)} : ∀ (d : Nat) (J : Nat → Int) (i : Nat), i + d ≤ l.length → leads l lb d (mkL l J) i = (leadsJ l lb d J i).map (mkL l)
  | 0, J, i, _ => rfl
  | d + 1, J, i, h => by
    unfold leads leadsJ
    rw [leadP_mk (by omega)]
    cases hn : leadJ l lb J i with
    | error e => rfl
    | ok r => exact leads_mk d r (i + 1) (by omega)
def js0 : JSt := ⟨fun _ => 0, [], []⟩
theorem opOk_nil (n : Nat) : OpOk n [] := fun q hq => by cases hq
theorem resolve_err1 {l : List S32} {e p : Int} (h : notesJ l l.length js0 0 = .error (e, p)) : resolveP l = ([], e, p) := by
  have h1 := notes_mk (l := l) l.length js0 0 (by omega) (opOk_nil _)
  rw [h] at h1
  simp only [JSt.st, js0, ← mkL_zero] at h1
  simp only [resolveP, h1, Except.map]
theorem resolve_err2 {l : List S32} {s : JSt} {e p : Int} (h : notesJ l l.length js0 0 = .ok s) (h2 : leadsJ l s.lb l.length s.J 0 = .error (e, p)) : resolveP l = ([], e, p) := by
  have h1 := notes_mk (l := l) l.length js0 0 (by omega) (opOk_nil _)
  rw [h] at h1
  simp only [JSt.st, js0, ← mkL_zero] at h1
  have h3 := leads_mk (l := l) (lb := s.lb) l.length s.J 0 (by omega)
  rw [h2] at h3
  simp only [resolveP, h1, Except.map, JSt.st, h3]
theorem resolve_ok {l : List S32} {s : JSt} {J : Nat → Int} (h : notesJ l l.length js0 0 = .ok s) (h2 : leadsJ l s.lb l.length s.J 0 = .ok J) : resolveP l = (mkL l J, 0, 0) := by
  have h1 := notes_mk (l := l) l.length js0 0 (by omega) (opOk_nil _)
  rw [h] at h1
  simp only [JSt.st, js0, ← mkL_zero] at h1
  have h3 := leads_mk (l := l) (lb := s.lb) l.length s.J 0 (by omega)
  rw [h2] at h3
  simp only [resolveP, h1, Except.map, JSt.st, h3]
/-- Resolve's three ends. -/
theorem resolve_cases (l : List S32) : (∃ e p, notesJ l l.length js0 0 = .error (e, p) ∧ resolveP l = ([], e, p)) ∨ (∃ s e p, notesJ l l.length js0 0 = .ok s ∧ leadsJ l s.lb l.length s.J 0 = .error (e, p) ∧ resolveP l = ([], e, p)) ∨ (∃ s J, notesJ l l.length js0 0 = .ok s ∧ leadsJ l s.lb l.length s.J 0 = .ok J ∧ resolveP l = (mkL l J, 0, 0)) := by
  cases h : notesJ l l.length js0 0 with
  | error x => exact .inl ⟨x.1, x.2, rfl, resolve_err1 (by rw [h])⟩
  | ok s =>
    cases h2 : leadsJ l s.lb l.length s.J 0 with
    | error x => exact .inr (.inl ⟨s, x.1, x.2, rfl, h2, resolve_err2 h (by rw [h2])⟩)
    | ok J => exact .inr (.inr ⟨s, J, rfl, h2, resolve_ok h h2⟩)
/-- Noting goes on from place to place. -/
theorem notesJ_add (l : List S32) : ∀ (a b : Nat) (s r : JSt) (i : Nat), notesJ l a s i = .ok r → notesJ l (a + b) s i = notesJ l b r (i + a)
  | 0, b, s, r, i, h => by
    unfold notesJ at h
    cases h
    rw [Nat.zero_add, Nat.add_zero]
  | a + 1, b, s, r, i, h => by
    rw [show a + 1 + b = (a + b) + 1 by omega]
    simp only [notesJ] at h ⊢
    cases hn : noteJ l s i with
    | error e => rw [hn] at h; cases h
    | ok s' =>
      rw [hn] at h
      simp only at h ⊢
      rw [notesJ_add l a b s' r (i + 1) h, show i + 1 + a = i + (a + 1) by omega]
end Go.Proofs.Ytgennlcbmepchaa.PAll
