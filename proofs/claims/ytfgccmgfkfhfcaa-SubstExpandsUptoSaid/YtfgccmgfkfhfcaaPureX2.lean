/- SubstExpands, of parts and cells that are not too many. -/
import Derived.Test.YtfgccmgfkfhfcaaPureT
namespace Go.Proofs.Ytfgccmgfkfhfcaa.Pure
open Go.RowKit Go.Proofs.Ytfgccmgfkfhfcaa.PAll Go.Proofs.YtfgccmgfkfhfcaaW.PrintWords Go.Proofs.YtfgccmgfkfhfcaaW.PrintLast Go.Proofs.YtfgccmgfkfhfcaaW.PrintMore
set_option linter.unusedVariables false
set_option linter.unusedSimpArgs false
theorem text_go (l : List Int) (tab : List ByteArray) (ht : tab.length = 19) (h2 : ∀ s ∈ tab, s.size ≤ 2) (hb : l.length ≤ 140737488351232) (hu : ∀ x ∈ l, (Lit.int .u8 x).wf = true) : ∀ (d i : Nat) (s : ByteArray), i ≤ l.length → i ≤ 12 → 12 - i ≤ d → s.size ≤ 2 * i → ∃ r, Ev (fun k => redactorlaw14_Text.l0 k l tab s (i : Int)) r ∧ r.length ≤ 24 := by
  have hend : ∀ (i : Nat) (s : ByteArray), i ≤ 12 → s.size ≤ 2 * i → ∃ r, Ev (fun k => redactorlaw14_Text.j1 k l tab s (i : Int) false) r ∧ r.length ≤ 24 := by
    intro i s h1 hs
    obtain ⟨r, hr, hl⟩ := of_ev s (by omega)
    refine ⟨r, Ev.step (f := fun k => (redactorref01_Of.f k s).bind fun t356 => (some t356)) (fun k => by simp only [redactorlaw14_Text.j1]; rw [if_neg (by decide)]) (Ev.bind hr (Ev.now _)), by omega⟩
  intro d
  induction d with
  | zero =>
    intro i s h1 h12 h3 hs
    obtain ⟨r, hr, hl⟩ := hend i s h12 hs
    refine ⟨r, Ev.step (fun k => ?_) hr, hl⟩
    simp only [redactorlaw14_Text.l0]
    by_cases h : (i : Int) < l.length
    · rw [if_pos h, decide_eq_false (by omega)]
    · rw [if_neg h]
  | succ d ih =>
    intro i s h1 h12 h3 hs
    by_cases h : (i : Int) < l.length
    · by_cases hi : i < 12
      · have hw : wrap64 ((i : Int) + 1) = ((i + 1 : Nat) : Int) := by rw [w64 (by omega) (by omega)]; rfl
        have hx : 0 ≤ rd l i ∧ rd l i ≤ 255 := by
          have h8 : IntKind.u8.min = 0 ∧ IntKind.u8.max = 255 := by decide
          have := hu _ (show rd l i ∈ l by unfold rd; rw [Int.toNat_natCast, List.getD_eq_getElem?_getD, List.getElem?_eq_getElem (by omega)]; exact List.getElem_mem (by omega))
          simp [Lit.wf, h8.1, h8.2] at this
          omega
        have w1 : wrap64 (rd l i) = rd l i := w64 (by omega) (by omega)
        have hsz : ∀ j : Int, (rdOf ByteArray.empty tab j).size ≤ 2 := by
          intro j
          unfold rdOf
          rw [List.getD_eq_getElem?_getD]
          cases hq : tab[j.toNat]? with
          | none => exact Nat.zero_le _
          | some y => exact h2 y (List.mem_of_getElem? hq)
        have hstep : ∀ j : Int, ∃ r, Ev (fun k => redactorlaw14_Text.l0 k l tab (s ++ (rdOf ByteArray.empty tab j)) (wrap64 ((i : Int) + 1))) r ∧ r.length ≤ 24 := by
          intro j
          obtain ⟨r, hr, hl⟩ := ih (i + 1) (s ++ (rdOf ByteArray.empty tab j)) (by omega) (by omega) (by omega) (by rw [ByteArray.size_append]; have := hsz j; omega)
          exact ⟨r, by rw [hw]; exact hr, hl⟩
        by_cases g : rd l i > 215
        · have t0 := Int.tmod_nonneg 9 hx.1
          have t1 := Int.tmod_lt_of_pos (rd l i) (b := 9) (by decide)
          have w2 : wrap64 (10 + (Int.tmod (rd l i) 9)) = 10 + (Int.tmod (rd l i) 9) := by clear w1 hw; unfold wrap64; omega
          obtain ⟨r, hr, hl⟩ := hstep (10 + (Int.tmod (rd l i) 9))
          have hs2 := hsz (10 + (Int.tmod (rd l i) 9))
          refine ⟨r, Ev.step (f := fun k => redactorlaw14_Text.j1 k l tab s (i : Int) true) (fun k => by simp only [redactorlaw14_Text.l0]; rw [if_pos h, decide_eq_true (by clear w1 w2 hw; omega)]) (Ev.step (fun k => ?_) hr), hl⟩
          simp only [redactorlaw14_Text.j1]
          rw [if_pos trivial, if_pos (by clear w1 w2 hw; omega), if_pos h, w1, if_pos g, w2, if_pos (by clear w1 w2 hw; omega), if_pos (by clear w1 w2 hw; omega), if_pos (by clear w1 w2 hw; omega)]
        · have t0 := Int.tmod_nonneg 10 hx.1
          have t1 := Int.tmod_lt_of_pos (rd l i) (b := 10) (by decide)
          obtain ⟨r, hr, hl⟩ := hstep (Int.tmod (rd l i) 10)
          have hs2 := hsz (Int.tmod (rd l i) 10)
          refine ⟨r, Ev.step (f := fun k => redactorlaw14_Text.j1 k l tab s (i : Int) true) (fun k => by simp only [redactorlaw14_Text.l0]; rw [if_pos h, decide_eq_true (by clear w1 hw; omega)]) (Ev.step (fun k => ?_) hr), hl⟩
          simp only [redactorlaw14_Text.j1]
          rw [if_pos trivial, if_pos (by clear w1 hw; omega), if_pos h, w1, if_neg g, if_pos (by clear w1 hw; omega), if_pos (by clear w1 hw; omega), if_pos (by clear w1 hw; omega)]
      · obtain ⟨r, hr, hl⟩ := hend i s h12 hs
        refine ⟨r, Ev.step (fun k => ?_) hr, hl⟩
        simp only [redactorlaw14_Text.l0]
        rw [if_pos h, decide_eq_false (by omega)]
    · obtain ⟨r, hr, hl⟩ := hend i s h12 hs
      refine ⟨r, Ev.step (fun k => ?_) hr, hl⟩
      simp only [redactorlaw14_Text.l0]
      rw [if_neg h]
theorem text_ev (l : List Int) (hb : l.length ≤ 140737488351232) (hu : ∀ x ∈ l, (Lit.int .u8 x).wf = true) : ∃ r, Ev (fun k => redactorlaw14_Text.f k l) r ∧ r.length ≤ 24 :=
  text_go l _ rfl (by decide) hb hu 12 0 ⟨#[]⟩ (Nat.zero_le _) (Nat.zero_le _) (Nat.le_refl _) (Nat.le_refl _)
end Go.Proofs.Ytfgccmgfkfhfcaa.Pure
