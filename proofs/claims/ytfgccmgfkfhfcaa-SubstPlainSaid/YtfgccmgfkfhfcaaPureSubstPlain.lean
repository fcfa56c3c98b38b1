import Derived.Test.YtfgccmgfkfhfcaaPAllx11
import Derived.Test.YtfgccmgfkfhfcaaPureP
namespace Go.Proofs.Ytfgccmgfkfhfcaa.Pure
open Go.RowKit Go.Proofs.Ytfgccmgfkfhfcaa.PAll Go.Proofs.YtfgccmgfkfhfcaaW.PrintWords Go.Proofs.YtfgccmgfkfhfcaaW.PrintLast
set_option linter.unusedVariables false
set_option linter.unusedSimpArgs false
/-- One part of cells, or none. -/
def onePart (a : List Int) : List S49 := if a = [] then [] else [⟨1, a, 0⟩]
def strokes (a : List Int) : List Int := a.flatMap fun c => [92, c]
theorem put_one (a : List Int) (c : Int) : putP (onePart a) c = onePart (a ++ [c]) := by
  unfold onePart
  cases a with
  | nil => rfl
  | cons x t => rw [if_neg (by simp), if_neg (by simp)]; exact putP_one _ _
theorem bd_part {a : List Int} (h : a.length < 1000) : (onePart a).length < 1099511627776 ∧ (PAll.lastT (onePart a)).f1.length < 1099511627776 := by
  unfold onePart
  cases a with
  | nil => exact bd_nil
  | cons x t => rw [if_neg (by simp)]; exact bd_one h
/-- A letter behind a stroke. -/
theorem parse_letter {f : Nat} {l : List Int} {k : Nat} {ps : List S49} {d : Int} (h : k + 1 < l.length) (hc : l.getD k 0 = 92) (hd : l.getD (k + 1) 0 = d) (h1 : 97 ≤ d) (h2 : d ≤ 109) (hb : ps.length < 1099511627776 ∧ (PAll.lastT ps).f1.length < 1099511627776) :
    parseN (f + 1) l 47 0 k ps = parseN f l 47 0 (k + 2) (putP ps d) := by
  have hs : stepR l 47 k = ⟨d, true, k, true, 0, 0, k + 2⟩ := by unfold stepR; rw [if_neg (by omega), hc, if_neg (by decide), if_neg (by decide), if_neg (by decide), if_neg (by omega), hd]
  rw [parse_next hs hb]
  have hw : wrap32 (d - 48) = d - 48 := by unfold wrap32; omega
  dsimp only
  rw [hw, if_neg (by simp), if_neg (by simp), if_neg (fun q => by have := q.2.2.2; omega), if_neg (fun q => by have := q.2.1; omega), if_neg (fun q => by simp at q)]
theorem getD_at (p t : List Int) (c : Int) : (p ++ (c :: t)).getD p.length 0 = c := by
  rw [List.getD_eq_getElem?_getD, List.getElem?_append_right (Nat.le_refl _)]; simp
theorem getD_at1 (p t : List Int) (b c : Int) : (p ++ (b :: c :: t)).getD (p.length + 1) 0 = c := by
  rw [List.getD_eq_getElem?_getD, List.getElem?_append_right (by omega)]; simp
theorem plain1 : ∀ (a p b : List Int) (g : Nat), (∀ c ∈ a, 97 ≤ c ∧ c ≤ 109) → b.length + a.length < 900 → parseN (a.length + 1 + g) (p ++ (a ++ [47])) 47 0 p.length (onePart b) = some (onePart (b ++ a), ((p.length + a.length + 1 : Nat) : Int), 0, 0) := by
  intro a
  induction a with
  | nil =>
    intro p b g hv hb
    have hs := parse_sign (f := g) (l := p ++ [47]) (e := 47) (gr := 0) (k := p.length) (ps := onePart b) (by simp) (getD_at p [] 47) (bd_part (by simp at hb; omega))
    rw [show ([] : List Int).length + 1 + g = g + 1 by simp; omega, List.nil_append, hs]
    simp
  | cons c t ih =>
    intro p b g hv hb
    have hc := hv c (by simp)
    have h := ih (p ++ [c]) (b ++ [c]) g (fun x hx => hv x (by simp [hx])) (by simp at hb ⊢; omega)
    rw [show (c :: t).length + 1 + g = (t.length + 1 + g) + 1 by simp; omega]
    have hs := parse_cell (f := t.length + 1 + g) (l := p ++ (c :: (t ++ [47]))) (e := 47) (gr := 0) (k := p.length) (ps := onePart b) (c := c) (by simp) (getD_at p (t ++ [47]) c) (by omega) (by omega) (by omega) (by omega) (bd_part (by simp at hb; omega))
    rw [List.cons_append, hs, put_one]
    rw [show p ++ (c :: (t ++ [47])) = (p ++ [c]) ++ (t ++ [47]) by simp, show p.length + 1 = (p ++ [c]).length by simp, h]
    simp
    omega
theorem plain2 : ∀ (a p b : List Int) (g : Nat), (∀ c ∈ a, 97 ≤ c ∧ c ≤ 109) → b.length + a.length < 900 → parseN (a.length + 1 + g) (p ++ (strokes a ++ [47])) 47 0 p.length (onePart b) = some (onePart (b ++ a), ((p.length + (strokes a).length + 1 : Nat) : Int), 0, 0) := by
  intro a
  induction a with
  | nil =>
    intro p b g hv hb
    have hs := parse_sign (f := g) (l := p ++ [47]) (e := 47) (gr := 0) (k := p.length) (ps := onePart b) (by simp) (getD_at p [] 47) (bd_part (by simp at hb; omega))
    rw [show ([] : List Int).length + 1 + g = g + 1 by simp; omega, show strokes [] ++ [47] = [47] from rfl, hs]
    simp [strokes]
  | cons c t ih =>
    intro p b g hv hb
    have hc := hv c (by simp)
    have h := ih (p ++ [92, c]) (b ++ [c]) g (fun x hx => hv x (by simp [hx])) (by simp at hb ⊢; omega)
    have e : strokes (c :: t) = 92 :: c :: strokes t := rfl
    rw [show (c :: t).length + 1 + g = (t.length + 1 + g) + 1 by simp; omega, e]
    have hs := parse_letter (f := t.length + 1 + g) (l := p ++ (92 :: c :: (strokes t ++ [47]))) (k := p.length) (ps := onePart b) (d := c) (by simp) (getD_at p (c :: (strokes t ++ [47])) 92) (getD_at1 p (strokes t ++ [47]) 92 c) hc.1 hc.2 (bd_part (by simp at hb; omega))
    rw [List.cons_append, List.cons_append, hs, put_one]
    rw [show p ++ (92 :: c :: (strokes t ++ [47])) = (p ++ [92, c]) ++ (strokes t ++ [47]) by simp, show p.length + 2 = (p ++ [92, c]).length by simp, h]
    simp
    omega
theorem strokes_length (a : List Int) : (strokes a).length = 2 * a.length := by
  induction a with
  | nil => rfl
  | cons c t ih => show (92 :: c :: strokes t).length = _; simp [ih]; omega
theorem parseP1 (a : List Int) (hv : ∀ c ∈ a, 97 ≤ c ∧ c ≤ 109) (h : a.length ≤ 30) : subst_Parse.f (a ++ [47]) 0 47 0 = some (onePart a, ((a ++ [47]).length : Int), 0, 0) := by
  unfold subst_Parse.f
  rw [if_pos ⟨rfl, by simp; omega⟩]
  have := plain1 a [] [] 2 hv (by simp; omega)
  have e : (a ++ [(47 : Int)]).length + 2 = a.length + 1 + 2 := by simp
  rw [e]
  refine Eq.trans this ?_
  simp
theorem parseP2 (a : List Int) (hv : ∀ c ∈ a, 97 ≤ c ∧ c ≤ 109) (h : a.length ≤ 30) : subst_Parse.f (strokes a ++ [47]) 0 47 0 = some (onePart a, ((strokes a ++ [47]).length : Int), 0, 0) := by
  unfold subst_Parse.f
  have hl := strokes_length a
  rw [if_pos ⟨rfl, by simp; omega⟩]
  have := plain2 a [] [] (a.length + 2) hv (by simp; omega)
  have e : (strokes a ++ [(47 : Int)]).length + 2 = a.length + 1 + (a.length + 2) := by simp; omega
  rw [e]
  refine Eq.trans this ?_
  simp
theorem expandP (x a : List Int) (s : List S44) (h : a.length ≤ 30) : Ev (fun k => subst_Expand.f k (onePart a) x s) a := by
  have e : (onePart a).flatMap (partP x s) = a := by
    unfold onePart
    cases a with
    | nil => rfl
    | cons c t => rw [if_neg (by simp)]; simp [partP]
  have hl : (onePart a).length ≤ 1 := by unfold onePart; split <;> simp
  have := expand_ev x s (onePart a) (by omega) (by rw [e]; omega)
  rwa [e] at this
theorem plain_j1 (x1 a : List Int) (hb : x1.length * 1 ≤ 140737488351232) (hu : ∀ x ∈ x1, (Lit.int .u8 x).wf = true) (hv : ∀ c ∈ a, 97 ≤ c ∧ c ≤ 109) (h : a.length ≤ 30) : Ev (fun k => redactorlaw14_SubstPlain.j1 k x1 a (strokes a)) true := by
  obtain ⟨x, hx, hx2, _⟩ := cells_ev x1 hb hu
  have hl := strokes_length a
  have hw : wrap64 (((a ++ [47]).length : Int) - 1) = (a.length : Int) := by rw [List.length_append]; unfold wrap64; simp; omega
  have ht : (a ++ [47]).take ((a.length : Nat) : Int).toNat = a := by rw [Int.toNat_natCast]; simp
  refine Ev.step (f := fun k => (redactorlaw01_Cells.f k x1).bind fun t436 => ((redactorlaw14_known.f k).bind fun t442 => (if t442 = true then ((subst_Expand.f k (onePart a) t436 [(⟨0, (t436.length : Int)⟩ : S44)]).bind fun t443 => ((redactorref01_Same.f k t443 a).bind fun t451 => (if t451 = true then ((subst_Expand.f k (onePart a) t436 [(⟨0, (t436.length : Int)⟩ : S44)]).bind fun t452 => ((redactorref01_Same.f k t452 a).bind fun t460 => (some t460))) else (some false)))) else (some false)))) (fun k => ?_) ?_
  · simp only [redactorlaw14_SubstPlain.j1]
    rw [if_pos (by omega), Option.bind_some, if_pos (by omega), Option.bind_some, parseP1 a hv h, Option.bind_some, parseP2 a hv h, Option.bind_some]
    dsimp only
    rw [hw, ht]
    have e0 := eq_true (show (0 : Int) ≤ (a.length : Int) by omega)
    have e1 := eq_true (show (a.length : Int) ≤ ((a ++ [(47 : Int)]).length : Int) by simp; omega)
    simp only [Option.bind_some, if_true, e0, e1]
  · refine Ev.bind hx ?_
    refine Ev.bind known_ev ?_
    refine Ev.congr (fun k => by rw [if_pos rfl]) ?_
    refine Ev.bind (expandP x a _ h) ?_
    refine Ev.bind (same_ev a (by omega)) ?_
    refine Ev.congr (fun k => by rw [if_pos rfl]) ?_
    refine Ev.bind (expandP x a _ h) ?_
    exact Ev.bind (same_ev a (by omega)) (Ev.now _)
theorem strokes_snoc (a : List Int) (c : Int) : strokes (a ++ [c]) = strokes a ++ [92, c] := by simp [strokes]
theorem plain_go (l0 l1 : List Int) (h1 : l0.length * 1 ≤ 140737488351232) (u1 : ∀ x ∈ l0, (Lit.int .u8 x).wf = true) (h2 : l1.length * 1 ≤ 140737488351232) (u2 : ∀ x ∈ l1, (Lit.int .u8 x).wf = true) : ∀ (d : Nat) (a : List Int), (∀ c ∈ a, 97 ≤ c ∧ c ≤ 109) → a.length ≤ l0.length → a.length ≤ 30 → 30 - a.length = d → Ev (fun k => redactorlaw14_SubstPlain.l0 k l0 l1 a (strokes a) (a.length : Int)) true := by
  intro d
  induction d with
  | zero =>
    intro a hv g1 g2 g3
    refine Ev.step (fun k => ?_) (plain_j1 l1 a h2 u2 hv g2)
    simp only [redactorlaw14_SubstPlain.l0]
    by_cases h : (a.length : Int) < l0.length
    · rw [if_pos h, if_neg (by omega)]
    · rw [if_neg h]
  | succ d ih =>
    intro a hv g1 g2 g3
    by_cases h : (a.length : Int) < l0.length
    · have hw : wrap64 ((a.length : Int) + 1) = ((a.length + 1 : Nat) : Int) := by rw [w64 (by omega) (by omega)]; rfl
      have hx : 0 ≤ rd l0 a.length ∧ rd l0 a.length ≤ 255 := by
        have h8 : IntKind.u8.min = 0 ∧ IntKind.u8.max = 255 := by decide
        have := u1 _ (show rd l0 a.length ∈ l0 by unfold rd; rw [Int.toNat_natCast, List.getD_eq_getElem?_getD, List.getElem?_eq_getElem (by omega)]; exact List.getElem_mem (by omega))
        simp [Lit.wf, h8.1, h8.2] at this
        omega
      have t0 := Int.tmod_nonneg 13 hx.1
      have t1 := Int.tmod_lt_of_pos (rd l0 a.length) (b := 13) (by decide)
      have hl := strokes_length a
      have hi := ih (a ++ [(97 + (Int.tmod (rd l0 a.length) 13)) % 256]) (fun c hc => by
        rcases List.mem_append.1 hc with h | h
        · exact hv c h
        · rw [List.mem_singleton.1 h]; omega) (by simp; omega) (by simp; omega) (by simp; omega)
      rw [List.length_append, List.length_singleton, strokes_snoc] at hi
      refine Ev.step (fun k => ?_) hi
      simp only [redactorlaw14_SubstPlain.l0]
      rw [if_pos h, if_pos (by omega), if_pos (by omega), if_pos (by omega), Option.bind_some, if_pos (by simp; omega), hw]
    · refine Ev.step (fun k => ?_) (plain_j1 l1 a h2 u2 hv g2)
      simp only [redactorlaw14_SubstPlain.l0]
      rw [if_neg h]
theorem SubstPlain : redactorlaw14_SubstPlain.Pure := by
  intro l0 l1 m1 h1 u1 m2 h2 u2
  exact Ev.rounds (plain_go l0 l1 h1 u1 h2 u2 30 [] (by simp) (Nat.zero_le _) (Nat.zero_le _) rfl)
end Go.Proofs.Ytfgccmgfkfhfcaa.Pure
