/- Cells of any bytes, and Text, come to an end. -/
import Derived.Test.YtfgccmgfkfhfcaaPureR
namespace Go.Proofs.Ytfgccmgfkfhfcaa.Pure
open Go.RowKit Go.Proofs.Ytfgccmgfkfhfcaa.PAll Go.Proofs.YtfgccmgfkfhfcaaW.PrintWords Go.Proofs.YtfgccmgfkfhfcaaW.PrintLast Go.Proofs.YtfgccmgfkfhfcaaW.PrintMore
set_option linter.unusedVariables false
set_option linter.unusedSimpArgs false
theorem need_j1 (b : Int) (y : Bool) : ∃ n, Ev (fun k => redactorref01_need.j1 k b y) n ∧ 0 ≤ n ∧ n ≤ 4 := by
  cases y with
  | true => exact ⟨3, Ev.step (f := fun _ => some 3) (fun k => by simp [redactorref01_need.j1]) (Ev.now _), by decide, by decide⟩
  | false =>
    by_cases h : b ≥ 240 ∧ b ≤ 244
    · refine ⟨4, Ev.step (f := fun _ => some 4) (fun k => ?_) (Ev.now _), by decide, by decide⟩
      simp only [redactorref01_need.j1]
      rw [if_neg (by decide), if_pos h.1, if_pos h.2]
    · refine ⟨0, Ev.step (f := fun _ => some 0) (fun k => ?_) (Ev.now _), by decide, by decide⟩
      simp only [redactorref01_need.j1]
      rw [if_neg (by decide)]
      by_cases h1 : b ≥ 240
      · rw [if_pos h1, if_neg (fun h2 => h ⟨h1, h2⟩)]
      · rw [if_neg h1]
theorem need_j0 (b : Int) (y : Bool) : ∃ n, Ev (fun k => redactorref01_need.j0 k b y) n ∧ 0 ≤ n ∧ n ≤ 4 := by
  cases y with
  | true => exact ⟨2, Ev.step (f := fun _ => some 2) (fun k => by simp [redactorref01_need.j0]) (Ev.now _), by decide, by decide⟩
  | false =>
    by_cases h : b ≥ 224
    · obtain ⟨n, hn, h1⟩ := need_j1 b (decide (b ≤ 239))
      exact ⟨n, Ev.step (fun k => by simp only [redactorref01_need.j0]; rw [if_neg (by decide), if_pos h]) hn, h1⟩
    · obtain ⟨n, hn, h1⟩ := need_j1 b false
      exact ⟨n, Ev.step (fun k => by simp only [redactorref01_need.j0]; rw [if_neg (by decide), if_neg h]) hn, h1⟩
theorem need_ev (b : Int) : ∃ n, Ev (fun k => redactorref01_need.f k b) n ∧ 0 ≤ n ∧ n ≤ 4 := by
  unfold redactorref01_need.f
  by_cases h : b < 128
  · exact ⟨1, Ev.congr (fun k => by rw [if_pos h]) (Ev.now 1), by decide, by decide⟩
  · by_cases h2 : b ≥ 194
    · obtain ⟨n, hn, h1⟩ := need_j0 b (decide (b ≤ 223))
      exact ⟨n, Ev.congr (fun k => by rw [if_neg h, if_pos h2]) hn, h1⟩
    · obtain ⟨n, hn, h1⟩ := need_j0 b false
      exact ⟨n, Ev.congr (fun k => by rw [if_neg h, if_neg h2]) hn, h1⟩
theorem right_ok (c : Int) : ∃ b, redactorref01_Right.f c = some b := by
  unfold redactorref01_Right.f
  split
  · split
    · exact ⟨_, rfl⟩
    · split <;> exact ⟨_, rfl⟩
  · split <;> exact ⟨_, rfl⟩
theorem first_l0 (s : ByteArray) (n : Int) (hn : 0 ≤ n ∧ n ≤ 4) (hs : n ≤ s.size) : ∀ (d : Nat) (i c : Int), 0 ≤ i → i ≤ 5 → (n - i).toNat ≤ d → ∃ c' m, Ev (fun k => redactorref01_First.l0 k s n c i) (c', m) ∧ 0 ≤ m ∧ m ≤ n := by
  have hend : ∀ c i, 0 ≤ i → n ≤ i → ∃ c' m, Ev (fun k => redactorref01_First.l0 k s n c i) (c', m) ∧ 0 ≤ m ∧ m ≤ n := by
    intro c i h0 h1
    obtain ⟨b, hb⟩ := right_ok c
    by_cases q : c < rd [0, 0, 128, 2048, 65536] n
    · refine ⟨0, 0, Ev.step (f := fun _ => some (0, 0)) (fun k => ?_) (Ev.now _), by omega, by omega⟩
      simp only [redactorref01_First.l0]
      rw [if_neg (by omega), Option.bind_some, if_pos hn.1, if_pos (by simp; omega), if_pos q]
    · cases b with
      | true =>
        refine ⟨c, n, Ev.step (f := fun _ => some (c, n)) (fun k => ?_) (Ev.now _), hn.1, by omega⟩
        simp only [redactorref01_First.l0]
        rw [if_neg (by omega), Option.bind_some, if_pos hn.1, if_pos (by simp; omega), if_neg q, hb, Option.bind_some, if_pos rfl]
      | false =>
        refine ⟨0, 0, Ev.step (f := fun _ => some (0, 0)) (fun k => ?_) (Ev.now _), by omega, by omega⟩
        simp only [redactorref01_First.l0]
        rw [if_neg (by omega), Option.bind_some, if_pos hn.1, if_pos (by simp; omega), if_neg q, hb, Option.bind_some, if_neg (by decide)]
  intro d
  induction d with
  | zero => intro i c h0 h5 h1; exact hend c i h0 (by omega)
  | succ d ih =>
    intro i c h0 h5 h1
    by_cases h : i < n
    · by_cases b1 : bt s i < 128
      · refine ⟨0, 0, Ev.step (f := fun _ => some (0, 0)) (fun k => ?_) (Ev.now _), by omega, by omega⟩
        simp only [redactorref01_First.l0]
        rw [if_pos h, if_pos h0, if_pos (by omega), if_pos b1]
      · by_cases b2 : bt s i > 191
        · refine ⟨0, 0, Ev.step (f := fun _ => some (0, 0)) (fun k => ?_) (Ev.now _), by omega, by omega⟩
          simp only [redactorref01_First.l0]
          rw [if_pos h, if_pos h0, if_pos (by omega), if_neg b1, if_pos b2]
        · have hw : wrap64 (i + 1) = i + 1 := w64 (by omega) (by omega)
          obtain ⟨c', m, hc, hm⟩ := ih (i + 1) (wrap32 ((wrap32 (c * 64)) + (wrap32 (Int.tmod (bt s i) 64)))) (by omega) (by omega) (by omega)
          refine ⟨c', m, Ev.step (fun k => ?_) hc, hm⟩
          simp only [redactorref01_First.l0]
          rw [if_pos h, if_pos h0, if_pos (by omega), if_neg b1, if_neg b2, hw]
    · exact hend c i h0 (by omega)
theorem first_j1 (s : ByteArray) (n c : Int) (hn : 0 ≤ n ∧ n ≤ 4) (hs : n ≤ s.size) : ∃ c' m, Ev (fun k => redactorref01_First.j1 k s n c) (c', m) ∧ 0 ≤ m ∧ m ≤ n := by
  obtain ⟨c', m, hc, hm⟩ := first_l0 s n hn hs 4 1 c (by decide) (by decide) (by omega)
  exact ⟨c', m, Ev.step (fun k => by simp only [redactorref01_First.j1]) hc, hm⟩
theorem first_j0 (s : ByteArray) (h0 : 0 < s.size) (n : Int) (hn : 0 ≤ n ∧ n ≤ 4) (hs : n ≤ s.size) : ∃ c' m, Ev (fun k => redactorref01_First.j0 k s n false) (c', m) ∧ 0 ≤ m ∧ m ≤ n := by
  by_cases h : n > 1
  · have h3 : n = 2 ∨ n = 3 ∨ n = 4 := by omega
    have e1 : 0 ≤ (IntKind.u64.wrap (wrap64 (7 - n))) := by rcases h3 with rfl | rfl | rfl <;> decide +kernel
    have e2 : ¬ ((shl .i32 1 (IntKind.u64.wrap (wrap64 (7 - n)))) = 0) := by rcases h3 with rfl | rfl | rfl <;> decide +kernel
    obtain ⟨c', m, hc, hm⟩ := first_j1 s n (Int.tmod (wrap32 (bt s 0)) (shl .i32 1 (IntKind.u64.wrap (wrap64 (7 - n))))) hn hs
    refine ⟨c', m, Ev.step (fun k => ?_) hc, hm⟩
    simp only [redactorref01_First.j0]
    rw [if_neg (by decide), if_pos (by omega), if_pos h, if_pos e1, if_neg e2]
  · obtain ⟨c', m, hc, hm⟩ := first_j1 s n (wrap32 (bt s 0)) hn hs
    refine ⟨c', m, Ev.step (fun k => ?_) hc, hm⟩
    simp only [redactorref01_First.j0]
    rw [if_neg (by decide), if_pos (by omega), if_neg h]
theorem first_ev (s : ByteArray) (h0 : 0 < s.size) : ∃ c m, Ev (fun k => redactorref01_First.f k s) (c, m) ∧ 0 ≤ m ∧ m ≤ (s.size : Int) ∧ m ≤ 4 := by
  obtain ⟨n, hn, hn1⟩ := need_ev (bt s 0)
  have he : ¬ (s.toList = ([] : List UInt8)) := by
    intro h
    have : s.data.toList = [] := by simpa [ByteArray.toList_eq] using h
    have h2 : s.data.size = 0 := by rw [← Array.length_toList, this]; rfl
    have h3 : s.size = s.data.size := rfl
    omega
  have hT : Ev (fun k => redactorref01_First.j0 k s n true) ((0, 0) : Int × Int) := Ev.step (f := fun _ => some ((0, 0) : Int × Int)) (fun k => by simp [redactorref01_First.j0]) (Ev.now _)
  unfold redactorref01_First.f
  by_cases hz : n = 0
  · refine ⟨0, 0, ?_, by omega, by omega, by omega⟩
    refine Ev.congr (fun k => by rw [if_neg he, if_pos (by omega)]) ?_
    refine Ev.bind hn ?_
    exact Ev.congr (fun k => by rw [if_pos hz]) hT
  · by_cases hg : n > (s.size : Int)
    · refine ⟨0, 0, ?_, by omega, by omega, by omega⟩
      refine Ev.congr (fun k => by rw [if_neg he, if_pos (by omega)]) ?_
      refine Ev.bind hn ?_
      exact Ev.congr (fun k => by rw [if_neg hz, decide_eq_true hg]) hT
    · obtain ⟨c, m, hc, hm⟩ := first_j0 s h0 n hn1 (by omega)
      refine ⟨c, m, ?_, hm.1, by omega, by omega⟩
      refine Ev.congr (fun k => by rw [if_neg he, if_pos (by omega)]) ?_
      refine Ev.bind hn ?_
      exact Ev.congr (fun k => by rw [if_neg hz, decide_eq_false hg]) hc
theorem of_go (s : ByteArray) (hs : s.size ≤ 1000) : ∀ (d i : Nat) (acc : List Int), i ≤ s.size → s.size - i ≤ d → acc.length ≤ i → ∃ r, Ev (fun k => redactorref01_Of.l0 k s acc (i : Int)) r ∧ r.length ≤ s.size := by
  intro d
  induction d with
  | zero =>
    intro i acc h1 h2 h3
    refine ⟨acc, Ev.step (f := fun _ => some acc) (fun k => ?_) (Ev.now _), by omega⟩
    simp only [redactorref01_Of.l0]
    rw [if_neg (by omega)]
  | succ d ih =>
    intro i acc h1 h2 h3
    by_cases h : (i : Int) < s.size
    · obtain ⟨c, m, hc, m0, m1, m4⟩ := first_ev (s.extract (i : Int).toNat s.size) (by rw [ByteArray.size_extract]; omega)
      rw [ByteArray.size_extract, Int.toNat_natCast] at m1
      by_cases hz : m = 0
      · obtain ⟨r, hr, hl⟩ := ih (i + 1) (acc ++ [wrap32 ((-1) - (wrap32 (bt s i)))]) (by omega) (by omega) (by simp; omega)
        have hw : wrap64 ((i : Int) + 1) = ((i + 1 : Nat) : Int) := by rw [w64 (by omega) (by omega)]; rfl
        refine ⟨r, ?_, hl⟩
        refine Ev.step (f := fun k => (redactorref01_First.f k (s.extract (i : Int).toNat s.size)).bind fun bt112 => (if bt112.2 = 0 then ((redactorref01_Escape.f (bt s i)).bind fun t114 => (if acc.length < 35184372088832 then (redactorref01_Of.l0 k s (acc ++ [t114]) (wrap64 ((i : Int) + 1))) else (none))) else (if acc.length < 35184372088832 then (redactorref01_Of.l0 k s (acc ++ [bt112.1]) (wrap64 ((i : Int) + bt112.2))) else (none)))) (fun k => by simp only [redactorref01_Of.l0]; rw [if_pos h, if_pos (by omega), if_pos (by omega)]) ?_
        refine Ev.bind hc ?_
        refine Ev.congr (fun k => ?_) hr
        dsimp only
        rw [if_pos hz, redactorref01_Escape.f, Option.bind_some, if_pos (by omega), hw]
      · obtain ⟨mn, hmn⟩ := Int.eq_ofNat_of_zero_le m0
        obtain ⟨r, hr, hl⟩ := ih (i + mn) (acc ++ [c]) (by omega) (by omega) (by simp; omega)
        have hw : wrap64 ((i : Int) + m) = ((i + mn : Nat) : Int) := by rw [w64 (by omega) (by omega)]; omega
        refine ⟨r, ?_, hl⟩
        refine Ev.step (f := fun k => (redactorref01_First.f k (s.extract (i : Int).toNat s.size)).bind fun bt112 => (if bt112.2 = 0 then ((redactorref01_Escape.f (bt s i)).bind fun t114 => (if acc.length < 35184372088832 then (redactorref01_Of.l0 k s (acc ++ [t114]) (wrap64 ((i : Int) + 1))) else (none))) else (if acc.length < 35184372088832 then (redactorref01_Of.l0 k s (acc ++ [bt112.1]) (wrap64 ((i : Int) + bt112.2))) else (none)))) (fun k => by simp only [redactorref01_Of.l0]; rw [if_pos h, if_pos (by omega), if_pos (by omega)]) ?_
        refine Ev.bind hc ?_
        refine Ev.congr (fun k => ?_) hr
        dsimp only
        rw [if_neg hz, if_pos (by omega), hw]
    · refine ⟨acc, Ev.step (f := fun _ => some acc) (fun k => ?_) (Ev.now _), by omega⟩
      simp only [redactorref01_Of.l0]
      rw [if_neg h]
theorem of_ev (s : ByteArray) (hs : s.size ≤ 1000) : ∃ r, Ev (fun k => redactorref01_Of.f k s) r ∧ r.length ≤ s.size := of_go s hs _ 0 [] (Nat.zero_le _) (Nat.le_refl _) (Nat.le_refl _)
end Go.Proofs.Ytfgccmgfkfhfcaa.Pure
