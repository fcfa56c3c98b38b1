/- The reference's Parse comes to an end. -/
import Derived.Test.YtfgccmgfkfhfcaaPureE
namespace Go.Proofs.Ytfgccmgfkfhfcaa.Pure
open Go.RowKit Go.Proofs.Ytfgccmgfkfhfcaa.PAll Go.Proofs.YtfgccmgfkfhfcaaW.PrintWords Go.Proofs.YtfgccmgfkfhfcaaW.PrintLast
set_option linter.unusedVariables false
set_option linter.unusedSimpArgs false
/-- No more than M parts, none of more than M cells. -/
def PB (ps : List S49) (M : Nat) : Prop := ps.length ≤ M ∧ ∀ p ∈ ps, p.f1.length ≤ M
theorem PB.mono {ps : List S49} {M N : Nat} (h : PB ps M) (hn : M ≤ N) : PB ps N := ⟨Nat.le_trans h.1 hn, fun p hp => Nat.le_trans (h.2 p hp) hn⟩
theorem PB.snoc {ps : List S49} {M : Nat} (h : PB ps M) {p : S49} (hp : p.f1.length ≤ 1) : PB (ps ++ [p]) (M + 1) := by
  refine ⟨by have := h.1; simp; omega, fun q hq => ?_⟩
  rcases List.mem_append.1 hq with h1 | h1
  · have := h.2 q h1; omega
  · rw [List.mem_singleton.1 h1]; omega
theorem rput_ok {ps : List S49} {M : Nat} (h : PB ps M) (hM : M ≤ 2000) (c : Int) : ∃ q, redactorref14_put.f ps c = some q ∧ PB q (M + 1) := by
  have h1 := h.1
  unfold redactorref14_put.f
  rw [if_pos (by simp; omega), Option.bind_some, List.nil_append]
  by_cases h0 : (ps.length : Int) > 0
  · have hw : wrap64 ((ps.length : Int) - 1) = ((ps.length - 1 : Nat) : Int) := by unfold wrap64; omega
    have hi : ps.length - 1 < ps.length := by omega
    rw [if_pos h0, hw, if_pos (by omega), if_pos (by omega), rd_T49_nat ps _ hi]
    by_cases hk : ps[ps.length - 1].f0 = 1
    · have hb := h.2 _ (List.getElem_mem hi)
      rw [if_pos hk, if_pos (by simp; omega), Option.bind_some, List.nil_append, if_pos (by omega), Int.toNat_natCast]
      refine ⟨_, rfl, ⟨by simp; omega, fun q hq => ?_⟩⟩
      rcases List.mem_or_eq_of_mem_set hq with h2 | h2
      · have := h.2 q h2; omega
      · subst h2; simp; omega
    · rw [if_neg hk, if_pos (by omega)]
      exact ⟨_, rfl, h.snoc (by simp)⟩
  · rw [if_neg h0, if_pos (by omega)]
    exact ⟨_, rfl, h.snoc (by simp)⟩
theorem rparse_go (t : List Int) (e gr : Int) (ht : t.length ≤ 1000) : ∀ (d i : Nat) (ps : List S49), i ≤ t.length → t.length - i ≤ d → PB ps i → ∃ r1 r2 r3 r4, Ev (fun k => redactorref14_Parse.l0 k t e gr ps (i : Int)) (r1, r2, r3, r4) ∧ PB r1 1001 := by
  intro d
  induction d with
  | zero =>
    intro i ps h1 h2 hp
    refine ⟨[], 0, 30, t.length, ?_, ⟨by simp, by simp⟩⟩
    refine Ev.step (f := fun _ => some ([], 0, 30, (t.length : Int))) (fun k => ?_) (Ev.now _)
    simp only [redactorref14_Parse.l0]
    rw [if_neg (by omega)]
  | succ d ih =>
    intro i ps h1 h2 hp
    by_cases hi : (i : Int) < t.length
    · have hw : wrap64 ((i : Int) + 1) = ((i + 1 : Nat) : Int) := by rw [w64 (by omega) (by omega)]; rfl
      have hw2 : wrap64 ((i : Int) + 2) = ((i + 2 : Nat) : Int) := by rw [w64 (by omega) (by omega)]; rfl
      have hpl := hp.1
      by_cases c1 : rd t i = e
      · refine ⟨ps, wrap64 ((i : Int) + 1), 0, 0, ?_, hp.mono (by omega)⟩
        refine Ev.step (f := fun _ => some (ps, wrap64 ((i : Int) + 1), 0, 0)) (fun k => ?_) (Ev.now _)
        simp only [redactorref14_Parse.l0]
        rw [if_pos hi, if_pos (by omega), if_pos c1]
      by_cases c2 : rd t i = 10
      · refine ⟨[], 0, 30, i, ?_, ⟨by simp, by simp⟩⟩
        refine Ev.step (f := fun _ => some ([], 0, 30, (i : Int))) (fun k => ?_) (Ev.now _)
        simp only [redactorref14_Parse.l0]
        rw [if_pos hi, if_pos (by omega), if_neg c1, if_pos c2]
      by_cases c3 : rd t i = 38
      · obtain ⟨r1, r2, r3, r4, hr, hb⟩ := ih (i + 1) (ps ++ [⟨2, [], 0⟩]) (by omega) (by omega) (hp.snoc (by simp))
        refine ⟨r1, r2, r3, r4, Ev.step (fun k => ?_) hr, hb⟩
        simp only [redactorref14_Parse.l0]
        rw [if_pos hi, if_pos (by omega), if_neg c1, if_neg c2, if_pos c3, if_pos (by omega), hw]
      by_cases c4 : rd t i = 92
      · by_cases c5 : ((i + 1 : Nat) : Int) ≥ t.length
        · refine ⟨[], 0, 30, t.length, ?_, ⟨by simp, by simp⟩⟩
          refine Ev.step (f := fun _ => some ([], 0, 30, (t.length : Int))) (fun k => ?_) (Ev.now _)
          simp only [redactorref14_Parse.l0]
          rw [if_pos hi, if_pos (by omega), if_neg c1, if_neg c2, if_neg c3, if_pos c4, hw, if_pos c5]
        · generalize hd : rd t ((i + 1 : Nat) : Int) = c
          have hj : ∀ b, ∃ r1 r2 r3 r4, Ev (fun k => redactorref14_Parse.j1 k t e gr ps (i : Int) c b) (r1, r2, r3, r4) ∧ PB r1 1001 := by
            intro b
            cases b with
            | true =>
              by_cases c6 : wrap64 (wrap32 (c - 48)) > gr
              · refine ⟨[], 0, 43, i, ?_, ⟨by simp, by simp⟩⟩
                refine Ev.step (f := fun _ => some ([], 0, 43, (i : Int))) (fun k => ?_) (Ev.now _)
                simp only [redactorref14_Parse.j1]
                rw [if_pos trivial, if_pos c6]
              · obtain ⟨r1, r2, r3, r4, hr, hb⟩ := ih (i + 2) (ps ++ [⟨2, [], wrap64 (wrap32 (c - 48))⟩]) (by omega) (by omega) ((hp.snoc (by simp)).mono (by omega))
                refine ⟨r1, r2, r3, r4, Ev.step (fun k => ?_) hr, hb⟩
                simp only [redactorref14_Parse.j1]
                rw [if_pos trivial, if_neg c6, if_pos (by omega), hw2]
            | false =>
              have hput : ∀ z, ∃ q r1 r2 r3 r4, redactorref14_put.f ps z = some q ∧ Ev (fun k => redactorref14_Parse.l0 k t e gr q ((i + 2 : Nat) : Int)) (r1, r2, r3, r4) ∧ PB r1 1001 := by
                intro z
                obtain ⟨q, hq, hqb⟩ := rput_ok hp (by omega) z
                obtain ⟨r1, r2, r3, r4, hr, hb⟩ := ih (i + 2) q (by omega) (by omega) (hqb.mono (by omega))
                exact ⟨q, r1, r2, r3, r4, hq, hr, hb⟩
              by_cases c7 : c = 110
              · by_cases c8 : e = 110
                · obtain ⟨q, r1, r2, r3, r4, hq, hr, hb⟩ := hput c
                  refine ⟨r1, r2, r3, r4, Ev.step (fun k => ?_) hr, hb⟩
                  simp only [redactorref14_Parse.j1]
                  rw [if_neg (by decide), if_pos c7, if_pos c8, hq, Option.bind_some, hw2]
                · obtain ⟨q, r1, r2, r3, r4, hq, hr, hb⟩ := hput 10
                  refine ⟨r1, r2, r3, r4, Ev.step (fun k => ?_) hr, hb⟩
                  simp only [redactorref14_Parse.j1]
                  rw [if_neg (by decide), if_pos c7, if_neg c8, hq, Option.bind_some, hw2]
              · obtain ⟨q, r1, r2, r3, r4, hq, hr, hb⟩ := hput c
                refine ⟨r1, r2, r3, r4, Ev.step (fun k => ?_) hr, hb⟩
                simp only [redactorref14_Parse.j1]
                rw [if_neg (by decide), if_neg c7, hq, Option.bind_some, hw2]
          have hb : ∃ b, ∀ k, (if c = e then (redactorref14_Parse.j1 k t e gr ps (i : Int) c false) else (if c ≥ 48 then (redactorref14_Parse.j1 k t e gr ps (i : Int) c (decide (c ≤ 57))) else (redactorref14_Parse.j1 k t e gr ps (i : Int) c false))) = redactorref14_Parse.j1 k t e gr ps (i : Int) c b := by
            by_cases g1 : c = e
            · exact ⟨false, fun k => by rw [if_pos g1]⟩
            · by_cases g2 : c ≥ 48
              · exact ⟨_, fun k => by rw [if_neg g1, if_pos g2]⟩
              · exact ⟨false, fun k => by rw [if_neg g1, if_neg g2]⟩
          obtain ⟨b, hb⟩ := hb
          obtain ⟨r1, r2, r3, r4, hr, hbb⟩ := hj b
          refine ⟨r1, r2, r3, r4, Ev.step (fun k => ?_) hr, hbb⟩
          simp only [redactorref14_Parse.l0]
          rw [if_pos hi, if_pos (by omega), if_neg c1, if_neg c2, if_neg c3, if_pos c4, hw, if_neg c5, if_pos (by omega), if_pos (by omega), hd, hb]
      · obtain ⟨q, hq, hqb⟩ := rput_ok hp (by omega) (rd t i)
        obtain ⟨r1, r2, r3, r4, hr, hb⟩ := ih (i + 1) q (by omega) (by omega) hqb
        refine ⟨r1, r2, r3, r4, Ev.step (fun k => ?_) hr, hb⟩
        simp only [redactorref14_Parse.l0]
        rw [if_pos hi, if_pos (by omega), if_neg c1, if_neg c2, if_neg c3, if_neg c4, hq, Option.bind_some, hw]
    · refine ⟨[], 0, 30, t.length, ?_, ⟨by simp, by simp⟩⟩
      refine Ev.step (f := fun _ => some ([], 0, 30, (t.length : Int))) (fun k => ?_) (Ev.now _)
      simp only [redactorref14_Parse.l0]
      rw [if_neg hi]
theorem rparse_ev (t : List Int) (e gr : Int) (ht : t.length ≤ 1000) : ∃ r1 r2 r3 r4, Ev (fun k => redactorref14_Parse.f k t 0 e gr) (r1, r2, r3, r4) ∧ PB r1 1001 :=
  rparse_go t e gr ht _ 0 [] (Nat.zero_le _) (Nat.le_refl _) ⟨Nat.le_refl _, by simp⟩
end Go.Proofs.Ytfgccmgfkfhfcaa.Pure
