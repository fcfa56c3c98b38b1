import Derived.Test.YtfgccmgfkfhfcaaPAllx5
import Derived.Test.YtfgccmgfkfhfcaaPureA
namespace Go.Proofs.Ytfgccmgfkfhfcaa.Pure
open Go.RowKit Go.Proofs.Ytfgccmgfkfhfcaa.PAll Go.Proofs.YtfgccmgfkfhfcaaW.PrintWords Go.Proofs.YtfgccmgfkfhfcaaW.PrintLast
theorem map_f {ps : List S31} {l : List Int} (h1 : ps.length < 1099511627776) (h2 : l.length < 1099511627776) (h3 : ∀ p ∈ ps, wf32 p.f0 = true ∧ wf32 p.f1 = true) (h4 : ∀ c ∈ l, wf32 c = true) :
    subst_Map.f ps l = some (l.map fun c => (mapC ps c).getD c) := by unfold subst_Map.f; rw [if_pos ⟨h1, h2, h3, h4⟩]
theorem map_nil (l : List Int) : (l.map fun c => (mapC [] c).getD c) = l := by
  exact (List.map_congr_left (g := id) (fun c _ => rfl)).trans (List.map_id l)
def m2 (a b : Int) (c : Int) : Int := (mapC [⟨97, a⟩, ⟨97, b⟩] c).getD c
theorem m2_a (a b : Int) : m2 a b 97 = a := rfl
theorem m2_o (a b : Int) {c : Int} (h : c ≠ 97) : m2 a b c = c := by
  unfold m2 mapC
  have : ((97 : Int) == c) = false := by simpa using fun e => h e.symm
  simp [List.find?, this]
theorem rd_nat (l : List Int) (i : Nat) (h : i < l.length) : rd l (i : Int) = l[i] := by
  unfold rd; rw [Int.toNat_natCast, List.getD_eq_getElem?_getD, List.getElem?_eq_getElem h]; rfl
theorem maps_go (a b : Int) (x : List Int) (hx : x.length ≤ 61) (hw : ∀ c ∈ x, wf32 c = true) : ∀ (d i : Nat), i ≤ x.length → x.length - i = d → Ev (fun k => redactorlaw14_SubstMaps.l0 k a x (x.map (m2 a b)) (i : Int)) true := by
  intro d
  induction d with
  | zero =>
    intro i h1 h2
    obtain rfl : i = x.length := by omega
    refine Ev.step (f := fun k => (redactorlaw14_known.f k).bind fun t229 => (if t229 = true then ((subst_Map.f ([] : List (S31)) x).bind fun t230 => ((redactorref01_Same.f k t230 x).bind fun t233 => (some t233))) else (some false))) (fun k => by simp only [redactorlaw14_SubstMaps.l0]; rw [if_neg (by omega)]) ?_
    refine Ev.bind known_ev ?_
    refine Ev.congr (fun k => by rw [if_pos rfl, map_f (by simp) (by omega) (by simp) hw, Option.bind_some, map_nil]) ?_
    exact Ev.bind (same_ev x (by omega)) (Ev.now _)
  | succ d ih =>
    intro i h1 h2
    have h := ih (i + 1) (by omega) (by omega)
    have hw : wrap64 ((i : Int) + 1) = ((i + 1 : Nat) : Int) := by rw [w64 (by omega) (by omega)]; rfl
    have hi : i < x.length := by omega
    refine Ev.step (fun k => ?_) h
    simp only [redactorlaw14_SubstMaps.l0]
    rw [if_pos (by omega), if_pos (by omega), rd_nat x i hi, rd_nat _ i (by simpa using hi), List.getElem_map]
    by_cases hc : x[i] = 97
    · rw [if_pos hc, if_pos (by simp; omega), hc, if_pos (m2_a a b), hw]
    · rw [if_neg hc, if_pos (by simp; omega), if_pos (m2_o a b hc), hw]
theorem SubstMaps : redactorlaw14_SubstMaps.Pure := by
  intro l0 a1 a2 hm hb hu hw1 hw2
  obtain ⟨r, hr, hr2, hrw⟩ := cells_ev l0 hb hu
  have hw : ∀ c ∈ r ++ [97], wf32 c = true := fun c hc => by
    rcases List.mem_append.1 hc with h | h
    · exact hrw c h
    · rw [List.mem_singleton.1 h]; decide
  refine Ev.rounds (?_ : Ev (fun k => redactorlaw14_SubstMaps.f k l0 a1 a2) true)
  unfold redactorlaw14_SubstMaps.f
  refine Ev.bind hr ?_
  have e : subst_Map.f ([(⟨97, a1⟩ : S31), (⟨97, a2⟩ : S31)] : List (S31)) (r ++ [97]) = some ((r ++ [97]).map (m2 a1 a2)) := map_f (by simp) (by simp; omega) (by
    intro p hp
    rcases List.mem_cons.1 hp with h | h
    · subst h; exact ⟨(by decide : wf32 97 = true), hw1⟩
    · rw [List.mem_singleton.1 h]; exact ⟨(by decide : wf32 97 = true), hw2⟩) hw
  refine Ev.congr (fun k => by rw [if_pos (by omega), Option.bind_some, e, Option.bind_some, if_pos (by simp)]) ?_
  exact maps_go a1 a2 (r ++ [97]) (by simp; omega) hw _ 0 (Nat.zero_le _) rfl
end Go.Proofs.Ytfgccmgfkfhfcaa.Pure
