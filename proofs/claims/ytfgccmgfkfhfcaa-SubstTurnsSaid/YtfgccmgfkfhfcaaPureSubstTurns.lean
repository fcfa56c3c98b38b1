import Derived.Test.YtfgccmgfkfhfcaaPAllx4
import Derived.Test.YtfgccmgfkfhfcaaPureA
namespace Go.Proofs.Ytfgccmgfkfhfcaa.Pure
set_option linter.unusedSectionVars false
set_option linter.unusedVariables false
set_option linter.unusedSimpArgs false
open Go.RowKit Go.Proofs.Ytfgccmgfkfhfcaa.PAll Go.Proofs.YtfgccmgfkfhfcaaW.PrintWords Go.Proofs.YtfgccmgfkfhfcaaW.PrintLast
theorem map_f {ps : List S31} {l : List Int} (h1 : ps.length < 1099511627776) (h2 : l.length < 1099511627776) (h3 : ∀ p ∈ ps, wf32 p.f0 = true ∧ wf32 p.f1 = true) (h4 : ∀ c ∈ l, wf32 c = true) :
    subst_Map.f ps l = some (l.map fun c => (mapC ps c).getD c) := by unfold subst_Map.f; rw [if_pos ⟨h1, h2, h3, h4⟩]
/-- N cells from c on. -/
def rowL (c : Int) (n : Nat) : List Int := (List.range n).map fun (j : Nat) => c + (j : Int)
def pairT (c d : Int) (n : Nat) : List S31 := (List.range n).map fun (j : Nat) => ⟨c + (j : Int), d + (j : Int)⟩
theorem rowL_succ (c : Int) (n : Nat) : rowL c (n + 1) = rowL c n ++ [c + (n : Int)] := by simp [rowL, List.range_succ]
theorem pairT_succ (c d : Int) (n : Nat) : pairT c d (n + 1) = pairT c d n ++ [⟨c + (n : Int), d + (n : Int)⟩] := by simp [pairT, List.range_succ]
theorem rowL_length (c : Int) (n : Nat) : (rowL c n).length = n := by simp [rowL]
theorem pairT_length (c d : Int) (n : Nat) : (pairT c d n).length = n := by simp [pairT]
theorem mapC_pairT (c d : Int) (n : Nat) (x : Int) : mapC (pairT c d n) x = if c ≤ x ∧ x < c + n then some (x - c + d) else none := by
  induction n with
  | zero => simp [pairT, mapC]
  | succ n ih =>
    rw [pairT_succ, mapC_snoc, ih]
    dsimp only
    by_cases h1 : c ≤ x ∧ x < c + n
    · rw [if_pos h1, if_pos (show c ≤ x ∧ x < c + ((n + 1 : Nat) : Int) by omega)]; rfl
    · rw [if_neg h1]
      by_cases h2 : c + (n : Int) = x
      · rw [if_pos h2, if_pos (show c ≤ x ∧ x < c + ((n + 1 : Nat) : Int) by omega)]; show some (d + (n : Int)) = _; congr 1; omega
      · rw [if_neg h2, if_neg (show ¬ (c ≤ x ∧ x < c + ((n + 1 : Nat) : Int)) by omega)]; rfl
theorem sp_0 : subst_Spell.f (rowL 97 0 ++ [47] ++ rowL 65 0 ++ [47]) 0 47 = some (pairT 97 65 0, ((2 * 0 + 2 : Nat) : Int), 0, 0) := by kernel_rfl
theorem sp_1 : subst_Spell.f (rowL 97 1 ++ [47] ++ rowL 65 1 ++ [47]) 0 47 = some (pairT 97 65 1, ((2 * 1 + 2 : Nat) : Int), 0, 0) := by kernel_rfl
theorem sp_2 : subst_Spell.f (rowL 97 2 ++ [47] ++ rowL 65 2 ++ [47]) 0 47 = some (pairT 97 65 2, ((2 * 2 + 2 : Nat) : Int), 0, 0) := by kernel_rfl
theorem sp_3 : subst_Spell.f (rowL 97 3 ++ [47] ++ rowL 65 3 ++ [47]) 0 47 = some (pairT 97 65 3, ((2 * 3 + 2 : Nat) : Int), 0, 0) := by kernel_rfl
theorem sp_4 : subst_Spell.f (rowL 97 4 ++ [47] ++ rowL 65 4 ++ [47]) 0 47 = some (pairT 97 65 4, ((2 * 4 + 2 : Nat) : Int), 0, 0) := by kernel_rfl
theorem sp_5 : subst_Spell.f (rowL 97 5 ++ [47] ++ rowL 65 5 ++ [47]) 0 47 = some (pairT 97 65 5, ((2 * 5 + 2 : Nat) : Int), 0, 0) := by kernel_rfl
theorem sp_6 : subst_Spell.f (rowL 97 6 ++ [47] ++ rowL 65 6 ++ [47]) 0 47 = some (pairT 97 65 6, ((2 * 6 + 2 : Nat) : Int), 0, 0) := by kernel_rfl
theorem sp_7 : subst_Spell.f (rowL 97 7 ++ [47] ++ rowL 65 7 ++ [47]) 0 47 = some (pairT 97 65 7, ((2 * 7 + 2 : Nat) : Int), 0, 0) := by kernel_rfl
theorem sp_8 : subst_Spell.f (rowL 97 8 ++ [47] ++ rowL 65 8 ++ [47]) 0 47 = some (pairT 97 65 8, ((2 * 8 + 2 : Nat) : Int), 0, 0) := by kernel_rfl
theorem sp_9 : subst_Spell.f (rowL 97 9 ++ [47] ++ rowL 65 9 ++ [47]) 0 47 = some (pairT 97 65 9, ((2 * 9 + 2 : Nat) : Int), 0, 0) := by kernel_rfl
theorem sp_10 : subst_Spell.f (rowL 97 10 ++ [47] ++ rowL 65 10 ++ [47]) 0 47 = some (pairT 97 65 10, ((2 * 10 + 2 : Nat) : Int), 0, 0) := by kernel_rfl
theorem sp_11 : subst_Spell.f (rowL 97 11 ++ [47] ++ rowL 65 11 ++ [47]) 0 47 = some (pairT 97 65 11, ((2 * 11 + 2 : Nat) : Int), 0, 0) := by kernel_rfl
theorem spellN (n : Nat) (h : n ≤ 11) : subst_Spell.f (rowL 97 n ++ [47] ++ rowL 65 n ++ [47]) 0 47 = some (pairT 97 65 n, ((2 * n + 2 : Nat) : Int), 0, 0) := by
  match n, h with
  | 0, _ => exact sp_0
  | 1, _ => exact sp_1
  | 2, _ => exact sp_2
  | 3, _ => exact sp_3
  | 4, _ => exact sp_4
  | 5, _ => exact sp_5
  | 6, _ => exact sp_6
  | 7, _ => exact sp_7
  | 8, _ => exact sp_8
  | 9, _ => exact sp_9
  | 10, _ => exact sp_10
  | 11, _ => exact sp_11
theorem wrap32_small {x : Int} (h0 : 0 ≤ x) (h1 : x < 1000000) : wrap32 (wrap64 x) = x := by unfold wrap32 wrap64; omega
section
variable (x0 : List Int) (a1 : Int) (n : Nat) (hn : n ≤ 11) (ha : wrap64 (Int.tmod a1 12) = n)
include hn ha
theorem turn0 (r : Bool) (h : Ev (fun k => redactorlaw14_SubstTurns.l1 k x0 a1 (rowL 97 n ++ [47]) 0) r) : ∀ (d i : Nat), i ≤ n → n - i = d → Ev (fun k => redactorlaw14_SubstTurns.l0 k x0 a1 (rowL 97 i) (i : Int)) r := by
  intro d
  induction d with
  | zero =>
    intro i h1 h2
    obtain rfl : i = n := by omega
    refine Ev.step (fun k => ?_) h
    simp only [redactorlaw14_SubstTurns.l0]
    rw [ha, if_neg (by omega), if_pos (by rw [rowL_length]; omega)]
  | succ d ih =>
    intro i h1 h2
    have hw : wrap64 ((i : Int) + 1) = ((i + 1 : Nat) : Int) := by rw [w64 (by omega) (by omega)]; rfl
    refine Ev.step (fun k => ?_) (ih (i + 1) (by omega) (by omega))
    simp only [redactorlaw14_SubstTurns.l0]
    rw [ha, if_pos (by omega), if_pos (by rw [rowL_length]; omega), wrap32_small (by omega) (by omega), hw, rowL_succ]
theorem turn1 (r : Bool) (h : Ev (fun k => redactorlaw14_SubstTurns.l2 k x0 a1 (rowL 97 n ++ [47] ++ rowL 65 n ++ [47]) (pairT 97 65 n) ((2 * n + 2 : Nat) : Int) 0 [] 0) r) : ∀ (d i : Nat), i ≤ n → n - i = d → Ev (fun k => redactorlaw14_SubstTurns.l1 k x0 a1 (rowL 97 n ++ [47] ++ rowL 65 i) (i : Int)) r := by
  intro d
  induction d with
  | zero =>
    intro i h1 h2
    obtain rfl : i = n := by omega
    refine Ev.step (fun k => ?_) h
    simp only [redactorlaw14_SubstTurns.l1]
    rw [ha, if_neg (by omega), if_pos (by simp [rowL_length]; omega), Option.bind_some, spellN _ hn, Option.bind_some]
  | succ d ih =>
    intro i h1 h2
    have hw : wrap64 ((i : Int) + 1) = ((i + 1 : Nat) : Int) := by rw [w64 (by omega) (by omega)]; rfl
    refine Ev.step (fun k => ?_) (ih (i + 1) (by omega) (by omega))
    simp only [redactorlaw14_SubstTurns.l1]
    rw [ha, if_pos (by omega), if_pos (by simp [rowL_length]; omega), wrap32_small (by omega) (by omega), hw, rowL_succ, List.append_assoc]
theorem rd_pairT (c d : Int) (i : Nat) (hi : i < n) : rd_T31 (pairT c d n) (i : Int) = ⟨c + (i : Int), d + (i : Int)⟩ := by
  unfold rd_T31
  rw [Int.toNat_natCast, List.getD_eq_getElem?_getD, List.getElem?_eq_getElem (by rw [pairT_length]; exact hi)]
  simp [pairT]
theorem turn2 (y : List Int) (z : Int) (r : Bool) (h : Ev (fun k => redactorlaw14_SubstTurns.l3 k x0 a1 y (pairT 97 65 n) z 0 (pairT 65 97 n) [] 0) r) : ∀ (d i : Nat), i ≤ n → n - i = d → Ev (fun k => redactorlaw14_SubstTurns.l2 k x0 a1 y (pairT 97 65 n) z 0 (pairT 65 97 i) (i : Int)) r := by
  intro d
  induction d with
  | zero =>
    intro i h1 h2
    obtain rfl : i = n := by omega
    refine Ev.step (fun k => ?_) h
    simp only [redactorlaw14_SubstTurns.l2]
    rw [pairT_length, if_neg (by omega)]
  | succ d ih =>
    intro i h1 h2
    have hw : wrap64 ((i : Int) + 1) = ((i + 1 : Nat) : Int) := by rw [w64 (by omega) (by omega)]; rfl
    refine Ev.step (fun k => ?_) (ih (i + 1) (by omega) (by omega))
    simp only [redactorlaw14_SubstTurns.l2]
    rw [pairT_length, if_pos (by omega), if_pos (by omega), if_pos (by rw [pairT_length]; omega), hw, rd_pairT a1 n hn ha 97 65 i (by omega), pairT_succ]
theorem wf_pair (c d : Int) (hc : 0 ≤ c ∧ c ≤ 100) (hd : 0 ≤ d ∧ d ≤ 100) : ∀ p ∈ pairT c d n, wf32 p.f0 = true ∧ wf32 p.f1 = true := by
  intro p hp
  obtain ⟨j, hj, rfl⟩ := List.mem_map.1 hp
  have hj := List.mem_range.1 hj
  have h32 : IntKind.i32.min = -2147483648 ∧ IntKind.i32.max = 2147483647 := by decide
  constructor <;> (unfold wf32; simp [Lit.wf, h32.1, h32.2]; omega)
theorem wf_small {c : Int} (h0 : 0 ≤ c) (h1 : c ≤ 1000) : wf32 c = true := by
  have h32 : IntKind.i32.min = -2147483648 ∧ IntKind.i32.max = 2147483647 := by decide
  unfold wf32; simp [Lit.wf, h32.1, h32.2]; omega
theorem turn4 (acc : List Int) (hacc : acc.length ≤ 60) (hv : ∀ c ∈ acc, 97 ≤ c ∧ c ≤ 122) (y : List Int) (hy : y.length = 2 * n + 2) : Ev (fun k => redactorlaw14_SubstTurns.j4 k a1 y (pairT 97 65 n) ((2 * n + 2 : Nat) : Int) 0 (pairT 65 97 n) acc) true := by
  have e1 := map_f (ps := pairT 97 65 n) (l := acc) (by rw [pairT_length]; omega) (by omega) (wf_pair a1 n hn ha 97 65 (by omega) (by omega)) (fun c hc => by have := hv c hc; exact wf_small a1 n hn ha (by omega) (by omega))
  generalize hx : (acc.map fun c => (mapC (pairT 97 65 n) c).getD c) = m at e1
  have hm : ∀ c ∈ m, 65 ≤ c ∧ c ≤ 122 := by
    rw [← hx]
    intro c hc
    obtain ⟨b, hb, rfl⟩ := List.mem_map.1 hc
    have := hv b hb
    rw [mapC_pairT]
    split
    · show 65 ≤ b - 97 + 65 ∧ b - 97 + 65 ≤ 122; omega
    · show 65 ≤ b ∧ b ≤ 122; omega
  have hl : m.length = acc.length := by rw [← hx]; simp
  have e2 := map_f (ps := pairT 65 97 n) (l := m) (by rw [pairT_length]; omega) (by omega) (wf_pair a1 n hn ha 65 97 (by omega) (by omega)) (fun c hc => by have := hm c hc; exact wf_small a1 n hn ha (by omega) (by omega))
  have e3 : (m.map fun c => (mapC (pairT 65 97 n) c).getD c) = acc := by
    rw [← hx, List.map_map]
    refine Eq.trans (List.map_congr_left (g := id) ?_) (List.map_id _)
    intro c hc
    have := hv c hc
    show (mapC (pairT 65 97 n) ((mapC (pairT 97 65 n) c).getD c)).getD ((mapC (pairT 97 65 n) c).getD c) = c
    rw [mapC_pairT 97 65]
    split
    · show (mapC (pairT 65 97 n) (c - 97 + 65)).getD (c - 97 + 65) = c
      rw [mapC_pairT, if_pos (by omega)]
      show c - 97 + 65 - 65 + 97 = c
      omega
    · show (mapC (pairT 65 97 n) c).getD c = c
      rw [mapC_pairT, if_neg (by omega)]; rfl
  rw [e3] at e2
  refine Ev.step (f := fun k => (redactorlaw14_known.f k).bind fun t179 => (if t179 = true then ((redactorref01_Same.f k acc acc).bind fun t183 => (if t183 = true then (some ((m.length : Int) == (acc.length : Int))) else (some false))) else (some false))) (fun k => ?_) ?_
  · simp only [redactorlaw14_SubstTurns.j4, if_true]
    rw [e1, Option.bind_some, hy, if_pos rfl, pairT_length, ha, if_pos rfl, e2, Option.bind_some]
  · refine Ev.bind known_ev ?_
    refine Ev.congr (fun k => by rw [if_pos rfl]) ?_
    refine Ev.bind (same_ev acc (by omega)) ?_
    exact Ev.congr (fun k => by rw [if_pos rfl, hl]; simp) (Ev.now true)
theorem turn3 (hb : x0.length ≤ 140737488351232) (hu : ∀ x ∈ x0, (Lit.int .u8 x).wf = true) (y : List Int) (hy : y.length = 2 * n + 2) : ∀ (d : Nat) (acc : List Int), (∀ c ∈ acc, 97 ≤ c ∧ c ≤ 122) → acc.length ≤ x0.length → acc.length ≤ 60 → 60 - acc.length = d → Ev (fun k => redactorlaw14_SubstTurns.l3 k x0 a1 y (pairT 97 65 n) ((2 * n + 2 : Nat) : Int) 0 (pairT 65 97 n) acc (acc.length : Int)) true := by
  intro d
  induction d with
  | zero =>
    intro acc hv h1 h2 h3
    refine Ev.step (fun k => ?_) (turn4 a1 n hn ha acc h2 hv y hy)
    simp only [redactorlaw14_SubstTurns.l3]
    by_cases h : (acc.length : Int) < x0.length
    · rw [if_pos h, if_neg (by omega)]
    · rw [if_neg h]
  | succ d ih =>
    intro acc hv h1 h2 h3
    by_cases h : (acc.length : Int) < x0.length
    · have hw : wrap64 ((acc.length : Int) + 1) = ((acc.length + 1 : Nat) : Int) := by rw [w64 (by omega) (by omega)]; rfl
      have hx : 0 ≤ rd x0 acc.length ∧ rd x0 acc.length ≤ 255 := by
        have h8 : IntKind.u8.min = 0 ∧ IntKind.u8.max = 255 := by decide
        have := hu _ (show rd x0 acc.length ∈ x0 by unfold rd; rw [Int.toNat_natCast, List.getD_eq_getElem?_getD, List.getElem?_eq_getElem (by omega)]; exact List.getElem_mem (by omega))
        simp [Lit.wf, h8.1, h8.2] at this
        omega
      have t0 := Int.tmod_nonneg 26 hx.1
      have t1 := Int.tmod_lt_of_pos (rd x0 acc.length) (b := 26) (by decide)
      have hi := ih (acc ++ [(97 + (Int.tmod (rd x0 acc.length) 26)) % 256]) (fun c hc => by
        rcases List.mem_append.1 hc with h | h
        · exact hv c h
        · rw [List.mem_singleton.1 h]; omega) (by simp; omega) (by simp; omega) (by simp; omega)
      rw [List.length_append, List.length_singleton] at hi
      refine Ev.step (fun k => ?_) hi
      simp only [redactorlaw14_SubstTurns.l3]
      rw [if_pos h, if_pos (by omega), if_pos (by omega), if_pos (by omega), hw]
    · refine Ev.step (fun k => ?_) (turn4 a1 n hn ha acc h2 hv y hy)
      simp only [redactorlaw14_SubstTurns.l3]
      rw [if_neg h]
end
theorem SubstTurns : redactorlaw14_SubstTurns.Pure := by
  intro l0 a1 hm hb hu ha
  have h8 : IntKind.u8.min = 0 ∧ IntKind.u8.max = 255 := by decide
  have ha1 : 0 ≤ a1 ∧ a1 ≤ 255 := by simp [Lit.wf, h8.1, h8.2] at ha; omega
  have t0 := Int.tmod_nonneg 12 ha1.1
  have t1 := Int.tmod_lt_of_pos a1 (b := 12) (by decide)
  obtain ⟨n, hn⟩ := Int.eq_ofNat_of_zero_le t0
  have hnn : n ≤ 11 := by omega
  have he : wrap64 (Int.tmod a1 12) = n := by rw [w64 (by omega) (by omega)]; exact hn
  have h3 := turn3 l0 a1 n hnn he (by omega) hu (rowL 97 n ++ [47] ++ rowL 65 n ++ [47]) (by simp [rowL_length]; omega) 60 [] (by simp) (Nat.zero_le _) (Nat.zero_le _) rfl
  have h2 := turn2 l0 a1 n hnn he _ _ true h3 n 0 (Nat.zero_le _) rfl
  have h1 := turn1 l0 a1 n hnn he true h2 n 0 (Nat.zero_le _) rfl
  rw [show rowL 97 n ++ [47] ++ rowL 65 0 = rowL 97 n ++ [47] by simp [rowL]] at h1
  exact Ev.rounds (turn0 l0 a1 n hnn he true h1 n 0 (Nat.zero_le _) rfl)
end Go.Proofs.Ytfgccmgfkfhfcaa.Pure
