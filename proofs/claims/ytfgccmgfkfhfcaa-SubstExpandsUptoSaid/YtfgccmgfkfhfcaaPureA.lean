/- The seat's cells, what known says, a list is the same as itself, in plain Lean. -/
import Derived.Test.YtfgccmgfkfhfcaaPAllx5
import Derived.KernelRfl
namespace Go.Proofs.Ytfgccmgfkfhfcaa.Pure
open Go.RowKit Go.Proofs.Ytfgccmgfkfhfcaa.PAll Go.Proofs.YtfgccmgfkfhfcaaW.PrintWords Go.Proofs.YtfgccmgfkfhfcaaW.PrintLast
theorem w64 {i : Int} (h0 : -9223372036854775808 ≤ i) (h1 : i ≤ 9223372036854775807) : wrap64 i = i := by unfold wrap64; omega
theorem rd_wf (xs : List Int) (h : ∀ x ∈ xs, wf32 x = true) (i : Int) : wf32 (rd xs i) = true := by
  unfold rd
  rw [List.getD_eq_getElem?_getD]
  cases hx : xs[i.toNat]? with
  | none => decide
  | some y => exact h y (List.mem_of_getElem? hx)
theorem cells_one (l acc : List Int) (i : Nat) (hi : i < l.length) (hb : l.length ≤ 140737488351232) (hc : 0 ≤ rd l i ∧ rd l i ≤ 255) (ha : acc.length ≤ 60) :
    ∃ v, wf32 v = true ∧ ∀ k, redactorlaw01_Cells.j1 (k + 1) l acc (i : Int) true = redactorlaw01_Cells.l0 k l (acc ++ [v]) ((i + 1 : Nat) : Int) := by
  have hw : wrap64 (rd l i) = rd l i := w64 (by omega) (by omega)
  have hw1 : wrap64 ((i : Int) + 1) = ((i + 1 : Nat) : Int) := by rw [w64 (by omega) (by omega)]; rfl
  have h0 : (0 : Int) ≤ i := by omega
  have h1 : (i : Int) < l.length := by omega
  have h2 : acc.length < 35184372088832 := by omega
  by_cases a1 : rd l i < 150
  · refine ⟨wrap32 (wrap64 (97 + (Int.tmod (rd l i) 4))), wrap32_wf _, fun k => ?_⟩
    simp only [redactorlaw01_Cells.j1, if_true]
    rw [if_pos h0, if_pos h1, hw, if_pos a1, if_pos h2, hw1]
  by_cases a2 : rd l i < 180
  · refine ⟨wrap32 (wrap64 (65 + (Int.tmod (rd l i) 4))), wrap32_wf _, fun k => ?_⟩
    simp only [redactorlaw01_Cells.j1, if_true]
    rw [if_pos h0, if_pos h1, hw, if_neg a1, if_pos a2, if_pos h2, hw1]
  by_cases a3 : rd l i < 200
  · refine ⟨10, by decide, fun k => ?_⟩
    simp only [redactorlaw01_Cells.j1, if_true]
    rw [if_pos h0, if_pos h1, hw, if_neg a1, if_neg a2, if_pos a3, if_pos h2, hw1]
  by_cases a4 : rd l i < 215
  · refine ⟨rd [32, 48, 55, 59, 45, 92, 47] (Int.tmod (rd l i) 7), rd_wf _ (by decide) _, fun k => ?_⟩
    simp only [redactorlaw01_Cells.j1, if_true]
    have t0 := Int.tmod_nonneg 7 hc.1
    have t1 := Int.tmod_lt_of_pos (rd l i) (b := 7) (by decide)
    rw [if_pos h0, if_pos h1, hw, if_neg a1, if_neg a2, if_neg a3, if_pos a4, Option.bind_some, if_pos t0, if_pos (by simpa using t1), if_pos h2, hw1]
  by_cases a5 : rd l i < 235
  · refine ⟨rd [233, 8364, 128512, 127, 9] (Int.tmod (rd l i) 5), rd_wf _ (by decide) _, fun k => ?_⟩
    simp only [redactorlaw01_Cells.j1, if_true]
    have t0 := Int.tmod_nonneg 5 hc.1
    have t1 := Int.tmod_lt_of_pos (rd l i) (b := 5) (by decide)
    rw [if_pos h0, if_pos h1, hw, if_neg a1, if_neg a2, if_neg a3, if_neg a4, if_pos a5, Option.bind_some, if_pos t0, if_pos (by simpa using t1), if_pos h2, hw1]
  · refine ⟨wrap32 ((-1) - (wrap32 (wrap64 (128 + (Int.tmod (rd l i) 128))))), wrap32_wf _, fun k => ?_⟩
    simp only [redactorlaw01_Cells.j1, if_true]
    rw [if_pos h0, if_pos h1, hw, if_neg a1, if_neg a2, if_neg a3, if_neg a4, if_neg a5, if_pos h2, hw1]
theorem cells_go (l : List Int) (hb : l.length ≤ 140737488351232) (hu : ∀ x ∈ l, (Lit.int .u8 x).wf = true) : ∀ (d : Nat) (acc : List Int), (∀ c ∈ acc, wf32 c = true) → acc.length ≤ l.length → acc.length ≤ 60 → l.length - acc.length = d →
    ∃ r, Ev (fun k => redactorlaw01_Cells.l0 k l acc ((acc.length : Nat) : Int)) r ∧ r.length ≤ 60 ∧ ∀ c ∈ r, wf32 c = true := by
  intro d
  induction d with
  | zero =>
    intro acc hw h1 h2 h3
    refine ⟨acc, ?_, h2, hw⟩
    refine Ev.step (f := fun k => redactorlaw01_Cells.j1 k l acc (acc.length : Int) false) (fun k => by simp only [redactorlaw01_Cells.l0]; rw [if_neg (by omega)]) ?_
    exact Ev.step (f := fun _ => some acc) (fun k => by simp [redactorlaw01_Cells.j1]) (Ev.now _)
  | succ d ih =>
    intro acc hw h1 h2 h3
    by_cases h60 : acc.length < 60
    · have hi : acc.length < l.length := by omega
      have hx : (Lit.int .u8 (rd l acc.length)).wf = true := hu _ (by
        unfold rd
        rw [List.getD_eq_getElem?_getD, show ((acc.length : Nat) : Int).toNat = acc.length by omega, List.getElem?_eq_getElem hi]
        exact List.getElem_mem hi)
      have hc : 0 ≤ rd l acc.length ∧ rd l acc.length ≤ 255 := by
        have h8 : IntKind.u8.min = 0 ∧ IntKind.u8.max = 255 := by decide
        simp [Lit.wf, h8.1, h8.2] at hx
        omega
      obtain ⟨v, hvw, hv⟩ := cells_one l acc acc.length hi hb hc h2
      obtain ⟨r, hr, hr2⟩ := ih (acc ++ [v]) (fun c hc => by rcases List.mem_append.1 hc with h | h; exact hw c h; rw [List.mem_singleton.1 h]; exact hvw) (by simp; omega) (by simp; omega) (by simp; omega)
      refine ⟨r, ?_, hr2⟩
      refine Ev.step (f := fun k => redactorlaw01_Cells.j1 k l acc (acc.length : Int) true) (fun k => by simp only [redactorlaw01_Cells.l0]; rw [if_pos (by omega), decide_eq_true (by omega)]) ?_
      refine Ev.step (fun k => hv k) ?_
      rw [List.length_append, List.length_singleton] at hr
      exact hr
    · refine ⟨acc, ?_, h2, hw⟩
      refine Ev.step (f := fun k => redactorlaw01_Cells.j1 k l acc (acc.length : Int) false) (fun k => by simp only [redactorlaw01_Cells.l0]; rw [if_pos (by omega), decide_eq_false (by omega)]) ?_
      exact Ev.step (f := fun _ => some acc) (fun k => by simp [redactorlaw01_Cells.j1]) (Ev.now _)
theorem cells_ev (l : List Int) (hb : l.length * 1 ≤ 140737488351232) (hu : ∀ x ∈ l, (Lit.int .u8 x).wf = true) : ∃ r, Ev (fun k => redactorlaw01_Cells.f k l) r ∧ r.length ≤ 60 ∧ ∀ c ∈ r, wf32 c = true :=
  cells_go l (by omega) hu _ [] (by simp) (Nat.zero_le _) (Nat.zero_le _) rfl
theorem compare_go (x : List Int) (hx : x.length ≤ 1000000000000) : ∀ (d i : Nat), i ≤ x.length → x.length - i = d → Ev (fun k => redactorref01_Compare.l0 k x x (i : Int)) 0 := by
  intro d
  induction d with
  | zero =>
    intro i h1 h2
    obtain rfl : i = x.length := by omega
    refine Ev.step (f := fun k => redactorref01_Compare.j1 k x x (x.length : Int) false) (fun k => by simp only [redactorref01_Compare.l0]; rw [if_neg (by omega)]) ?_
    exact Ev.step (f := fun _ => some 0) (fun k => by simp [redactorref01_Compare.j1]) (Ev.now _)
  | succ d ih =>
    intro i h1 h2
    have h := ih (i + 1) (by omega) (by omega)
    have hw : wrap64 ((i : Int) + 1) = ((i + 1 : Nat) : Int) := by rw [w64 (by omega) (by omega)]; rfl
    refine Ev.step (f := fun k => redactorref01_Compare.j1 k x x (i : Int) true) (fun k => by simp only [redactorref01_Compare.l0]; rw [if_pos (by omega), decide_eq_true (by omega)]) ?_
    refine Ev.step (fun k => ?_) h
    simp only [redactorref01_Compare.j1, if_true]
    rw [if_pos (by omega), if_pos (by omega), if_pos (by omega), if_neg (by omega), if_neg (by omega), hw]
theorem same_ev (x : List Int) (hx : x.length ≤ 1000000000000) : Ev (fun k => redactorref01_Same.f k x x) true := by
  unfold redactorref01_Same.f
  exact Ev.bind (compare_go x hx _ 0 (Nat.zero_le _) rfl) (Ev.now _)
theorem of1 : Ev (fun k => redactorref01_Of.f k (⟨#[97, 38, 92, 49, 47]⟩ : ByteArray)) [97, 38, 92, 49, 47] := Ev.of (redactorref01_Of.mono _) (k := 12) (by kernel_rfl)
theorem of2 : Ev (fun k => redactorref01_Of.f k (⟨#[97, 98, 47, 120, 121, 47]⟩ : ByteArray)) [97, 98, 47, 120, 121, 47] := Ev.of (redactorref01_Of.mono _) (k := 12) (by kernel_rfl)
theorem par1 : subst_Parse.f [97, 38, 92, 49, 47] 0 47 1 = some ([⟨1, [97], 0⟩, ⟨2, [], 0⟩, ⟨2, [], 1⟩], 5, 0, 0) := by kernel_rfl
theorem sp1 : subst_Spell.f [97, 98, 47, 120, 121, 47] 0 47 = some ([⟨97, 120⟩, ⟨98, 121⟩], 6, 0, 0) := spell_ok (m1 := 2) (m2 := 5) (by decide) (by decide) (by decide)
theorem known_ev : Ev (fun k => redactorlaw14_known.f k) true := by
  unfold redactorlaw14_known.f
  refine Ev.bind of1 ?_
  refine Ev.congr (fun k => by rw [par1, Option.bind_some]) ?_
  refine Ev.bind of2 ?_
  refine Ev.congr (fun k => by rw [sp1, Option.bind_some]) ?_
  exact Ev.of (fun k => LeO.refl _) (k := 0) (by decide)
end Go.Proofs.Ytfgccmgfkfhfcaa.Pure
