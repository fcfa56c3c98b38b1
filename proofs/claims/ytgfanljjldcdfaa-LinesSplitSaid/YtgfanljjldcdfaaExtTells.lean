/- The law's own function tells, walked by hand: it is true of every text that is not too long. -/
import Derived.Test.YtgfanljjldcdfaaPureB
import Derived.Test.YtgfanljjldcdfaaPAllx3
namespace Go.Proofs.Ytgfanljjldcdfaa.PAll
open Go.RowKit Go.Proofs.YtgfanljjldcdfaaW.PrintWords Go.Proofs.YtgfanljjldcdfaaW.PrintLast Go.Proofs.YtgfanljjldcdfaaW.PrintMore Go.Proofs.Ytgfanljjldcdfaa.Pure
set_option linter.unusedVariables false
set_option linter.unusedSimpArgs false
/-- Cells ahead of what is split. -/
def attachP (cur : List Int) (ls : List S32) : List S32 := if cur = [] then ls else match ls with
  | [] => [⟨cur, false⟩]
  | x :: t => ⟨cur ++ x.f0, x.f1⟩ :: t
theorem attach_end (cur r : List Int) : attachP cur (splitP (10 :: r)) = ⟨cur, true⟩ :: splitP r := by
  simp only [splitP, if_true, attachP]
  split
  · rename_i h; rw [h]
  · simp
theorem attach_cell (cur r : List Int) (c : Int) (hc : c ≠ 10) : attachP cur (splitP (c :: r)) = attachP (cur ++ [c]) (splitP r) := by
  simp only [splitP, if_neg hc, attachP]
  rw [if_neg (show ¬ cur ++ [c] = [] by simp)]
  split
  · rename_i h
    rw [h]
    cases splitP r <;> simp
  · cases splitP r <;> simp
theorem ref_split_go (l : List Int) (hl : l.length ≤ 1000000) : ∀ (d i : Nat) (xs : List S32) (cur : List Int), i ≤ l.length → l.length - i = d → xs.length ≤ i → cur.length ≤ i → xs ++ attachP cur (splitP (l.drop i)) = splitP l → Ev (fun k => redactorref05_Split.l0 k l xs cur (i : Int)) (splitP l) := by
  intro d
  induction d with
  | zero =>
    intro i xs cur h1 h2 h3 h4 h5
    obtain rfl : i = l.length := by omega
    rw [List.drop_length] at h5
    refine Ev.step (f := fun _ => some (splitP l)) (fun k => ?_) (Ev.now _)
    simp only [redactorref05_Split.l0]
    rw [if_neg (by omega)]
    by_cases hc : cur = []
    · subst hc
      rw [if_neg (by simp), ← h5]
      simp [attachP, splitP]
    · have : cur.length ≠ 0 := fun e => hc (List.eq_nil_of_length_eq_zero e)
      rw [if_pos (by omega), if_pos (by omega), ← h5]
      simp [attachP, splitP, hc]
  | succ d ih =>
    intro i xs cur h1 h2 h3 h4 h5
    have hi : i < l.length := by omega
    have hw : wrap64 ((i : Int) + 1) = ((i + 1 : Nat) : Int) := by rw [w64 (by omega) (by omega)]; rfl
    have hr : rd l (i : Int) = l[i] := by unfold rd; rw [List.getD_eq_getElem?_getD, show ((i : Nat) : Int).toNat = i by omega, List.getElem?_eq_getElem hi]; rfl
    rw [List.drop_eq_getElem_cons hi] at h5
    by_cases hc : l[i] = 10
    · have h := ih (i + 1) (xs ++ [⟨cur, true⟩]) [] (by omega) (by omega) (by simp; omega) (by simp) (by rw [hc, attach_end] at h5; simpa [attachP] using h5)
      refine Ev.step (fun k => ?_) h
      simp only [redactorref05_Split.l0]
      rw [if_pos (by omega), if_pos (by omega), hr, if_pos hc, if_pos (by omega), hw]
    · have h := ih (i + 1) xs (cur ++ [l[i]]) (by omega) (by omega) (by omega) (by simp; omega) (by rw [attach_cell _ _ _ hc] at h5; exact h5)
      refine Ev.step (fun k => ?_) h
      simp only [redactorref05_Split.l0]
      rw [if_pos (by omega), if_pos (by omega), hr, if_neg hc, if_pos (by omega), hw]
theorem ref_split (l : List Int) (hl : l.length ≤ 1000000) : Ev (fun k => redactorref05_Split.f k l) (splitP l) := ref_split_go l hl _ 0 [] [] (Nat.zero_le _) rfl (Nat.zero_le _) (Nat.zero_le _) (by simp [attachP])
theorem ref_number_go (l : List Int) (hl : l.length ≤ 1000000) (m : Nat) (hm : m ≤ l.length) : ∀ (d i : Nat), i ≤ m → m - i = d → Ev (fun k => redactorref05_Number.l0 k l (m : Int) ((endsN l i : Int) + 1) ((i : Int) - firstN l i + 1) (i : Int)) ((endsN l m : Int) + 1, (m : Int) - firstN l m + 1) := by
  intro d
  induction d with
  | zero =>
    intro i h1 h2
    obtain rfl : i = m := by omega
    exact Ev.step (f := fun _ => some ((endsN l i : Int) + 1, (i : Int) - firstN l i + 1)) (fun k => by simp only [redactorref05_Number.l0]; rw [if_neg (by omega)]) (Ev.now _)
  | succ d ih =>
    intro i h1 h2
    have hi : i < l.length := by omega
    have h := ih (i + 1) (by omega) (by omega)
    have he := endsN_le l i
    have hf := firstN_le l i
    have hw : wrap64 ((i : Int) + 1) = ((i + 1 : Nat) : Int) := by rw [w64 (by omega) (by omega)]; rfl
    have hw2 : wrap64 ((endsN l i : Int) + 1 + 1) = ((endsN l i + 1 : Nat) : Int) + 1 := by rw [w64 (by omega) (by omega)]; rfl
    have hw3 : wrap64 ((i : Int) - firstN l i + 1 + 1) = ((i + 1 : Nat) : Int) - firstN l i + 1 := by rw [w64 (by omega) (by omega)]; omega
    have hr : rd l (i : Int) = l.getD i 0 := by simp [rd]
    simp only [endsN, firstN] at h
    refine Ev.step (fun k => ?_) h
    simp only [redactorref05_Number.l0]
    rw [if_pos (by omega), if_pos (by omega), if_pos (by omega), hr, hw]
    by_cases h10 : l.getD i 0 = 10
    · simp only [if_pos h10]
      rw [hw2, show ((i + 1 : Nat) : Int) - ((i + 1 : Nat) : Int) + 1 = 1 by omega]
    · simp only [if_neg h10]
      rw [hw3]
theorem ref_number (l : List Int) (hl : l.length ≤ 1000000) (a : Int) : ∃ r, lines_Number.f l a = some r ∧ Ev (fun k => redactorref05_Number.f k l a) r := by
  have hn : l.length < 1099511627776 := by omega
  unfold lines_Number.f
  rw [if_pos hn]
  unfold redactorref05_Number.f
  by_cases h1 : a < 0
  · simp only [if_pos h1]
    exact ⟨_, rfl, Ev.step (f := fun _ => some (0, 0)) (fun k => by simp [redactorref05_Number.j0]) (Ev.now _)⟩
  · simp only [if_neg h1]
    by_cases h2 : (l.length : Int) < a
    · simp only [if_pos h2]
      exact ⟨_, rfl, Ev.step (f := fun _ => some (0, 0)) (fun k => by simp only [redactorref05_Number.j0]; rw [decide_eq_true h2, if_pos rfl]) (Ev.now _)⟩
    · simp only [if_neg h2]
      obtain ⟨m, rfl⟩ := Int.eq_ofNat_of_zero_le (show 0 ≤ a by omega)
      refine ⟨_, rfl, Ev.step (f := fun k => redactorref05_Number.l0 k l (m : Int) 1 1 0) (fun k => ?_) (ref_number_go l hl m (by omega) _ 0 (Nat.zero_le _) rfl)⟩
      simp only [redactorref05_Number.j0]
      rw [decide_eq_false h2, if_neg (by decide)]
theorem ref_same_go (xs : List S32) (hl : xs.length ≤ 1000000) (hc : ∀ y ∈ xs, y.f0.length ≤ 1000000) : ∀ (d i : Nat), i ≤ xs.length → xs.length - i = d → Ev (fun k => redactorref05_Same.l0 k xs xs (i : Int)) true := by
  intro d
  induction d with
  | zero =>
    intro i h1 h2
    obtain rfl : i = xs.length := by omega
    exact Ev.step (f := fun _ => some true) (fun k => by simp only [redactorref05_Same.l0]; rw [if_neg (by omega)]) (Ev.now _)
  | succ d ih =>
    intro i h1 h2
    have hi : i < xs.length := by omega
    have h := ih (i + 1) (by omega) (by omega)
    have hw : wrap64 ((i : Int) + 1) = ((i + 1 : Nat) : Int) := by rw [w64 (by omega) (by omega)]; rfl
    refine Ev.step (f := fun k => (redactorref01_Same.f k xs[i].f0 xs[i].f0).bind fun t229 => (if t229 = true then (redactorref05_Same.l0 k xs xs ((i + 1 : Nat) : Int)) else (some false))) (fun k => by simp only [redactorref05_Same.l0]; rw [if_pos (by omega), if_pos (by omega), if_pos (by omega), t32_at xs i hi, if_neg (by simp), hw]) ?_
    exact Ev.bind (same_ev _ (by have := hc _ (List.getElem_mem hi); omega)) (by simpa using h)
theorem ref_same (xs : List S32) (hl : xs.length ≤ 1000000) (hc : ∀ y ∈ xs, y.f0.length ≤ 1000000) : Ev (fun k => redactorref05_Same.f k xs xs) true := by
  unfold redactorref05_Same.f
  simp only [if_true]
  exact ref_same_go xs hl hc _ 0 (Nat.zero_le _) rfl
theorem line_leT (l : List Int) : ∀ y ∈ splitP l, y.f0.length ≤ l.length := by
  intro y hy
  obtain ⟨a, b, e⟩ := List.append_of_mem hy
  have h := congrArg List.length (join_split l)
  rw [e, joinP_append] at h
  simp [joinP] at h
  omega
set_option maxHeartbeats 1000000 in
set_option maxRecDepth 100000 in
theorem tells_calls (A0 : Option Addr) (c0 : Nat) (l0 : List Int) (a1 : Int) (w : World) (hr0 : Kd.C (Kd.int .i32) w A0 l0.length l0) (hc0 : l0.length ≤ c0) (hn : l0.length ≤ 1000) :
    Calls Try.prog 13 #[.slice A0 l0.length c0, .int .i64 a1] w fun e w' => e = .returned (.bool true) ∧ Below w.heap.size w w' := by
  obtain ⟨⟨r1, r2⟩, hnum, ⟨K1, hrn⟩⟩ := ref_number l0 (by omega) a1
  obtain ⟨K2, hrs⟩ := ref_split l0 (by omega)
  have hsl := splitP_length l0
  obtain ⟨K3, hrq⟩ := ref_same (splitP l0) (by omega) (fun y hy => by have := line_leT l0 y hy; omega)
  have hj := join_split l0
  obtain ⟨K4, hrj⟩ := join_ev (splitP l0) (by omega) (by rw [hj]; omega)
  rw [hj] at hrj
  obtain ⟨K5, hre⟩ := same_ev l0 (by omega)
  have hcnt : lines_Count.f l0 = some ((splitP l0).length : Int) := by unfold lines_Count.f; rw [if_pos (by omega)]
  have hspl : lines_Split.f l0 = some (splitP l0) := by unfold lines_Split.f; rw [if_pos (by omega)]
  obtain ⟨k, hk⟩ : ∃ k, k = max (max K1 K2) (max (max K3 K4) K5) := ⟨_, rfl⟩
  have HA := Aside0.mk (And.intro hnum (And.intro (hrn k (by omega)) (And.intro hspl (And.intro (hrs k (by omega)) (And.intro (hrq k (by omega)) (And.intro hcnt (And.intro (hrj k (by omega)) (hre k (by omega)))))))))
  have HR := Aside0.mk hr0
  have HC := Aside0.mk hc0
  clear hr0 hc0 hn hnum hrn hrs hsl hrq hj hrj hre hcnt hspl hk
  generalize splitP l0 = sp at HA
  go_enter Try.func13, Try.ntmps13
  go_wp2_with fail
  refine (lines_Number.calls _ _ l0 a1 r1 r2 _ HR.out HC.out HA.out.1).mono ?_
  rintro e w1 ⟨rfl, hB⟩
  have HB1 := Aside0.mk hB
  clear hB
  go_wp2_with fail
  refine (redactorref05_Number.calls k _ _ l0 a1 r1 r2 _ (Kd.C_below HR.out HB1.out) HC.out HA.out.2.1).mono ?_
  rintro e w2 ⟨rfl, ⟨nd, rfl⟩⟩
  have HB2 := Aside0.mk (pw_below_drewN HB1.out nd)
  clear HB1
  go_wp2_with fail
  refine (lines_Split.calls _ _ l0 sp _ (Kd.C_below HR.out HB2.out) HC.out HA.out.2.2.1).mono ?_
  rintro e w3 ⟨v3, rfl, hS, hB⟩
  have HS3 := Aside0.mk hS
  have HB3 := Aside0.mk (HB2.out.trans (hB.mono HB2.out.size))
  obtain ⟨A3, c3, rfl⟩ := Kd.R_slice (Kd.S_R hS)
  clear hS hB HB2
  go_wp2_with fail
  refine (redactorref05_Split.calls k _ _ l0 sp _ (Kd.C_below HR.out HB3.out) HC.out HA.out.2.2.2.1).mono ?_
  rintro e w4 ⟨v4, rfl, hS, hB⟩
  have HT4 := Aside0.mk hS
  have HS4 := Aside0.mk (Kd.S_below HS3.out hB)
  have HB4 := Aside0.mk (HB3.out.trans (hB.mono HB3.out.size))
  obtain ⟨A4, c4, rfl⟩ := Kd.R_slice (Kd.S_R hS)
  clear hS hB HB3 HS3
  go_wp2_with fail
  refine (redactorref05_Same.calls k _ _ sp _ _ sp true _ (Kd.R_reads' (Kd.S_R HS4.out)).2.2 (Kd.R_reads' (Kd.S_R HS4.out)).2.1 (Kd.R_reads' (Kd.S_R HT4.out)).2.2 (Kd.R_reads' (Kd.S_R HT4.out)).2.1 HA.out.2.2.2.2.1).mono ?_
  rintro e w5 ⟨rfl, ⟨nd2, rfl⟩⟩
  have HT5 := Aside0.mk (Kd.S_drewN HT4.out nd2)
  have HB5 := Aside0.mk (pw_below_drewN HB4.out nd2)
  clear HT4 HS4 HB4
  go_wp2_with fail
  refine (lines_Count.calls _ _ l0 _ _ (Kd.C_below HR.out HB5.out) HC.out HA.out.2.2.2.2.2.1).mono ?_
  rintro e w6 ⟨rfl, hB⟩
  have HT6 := Aside0.mk (Kd.S_below HT5.out hB)
  have HB6 := Aside0.mk (HB5.out.trans (hB.mono HB5.out.size))
  clear hB HB5 HT5
  go_wp2_with fail
  refine (lines_Join.calls k _ _ sp l0 _ (Kd.R_reads' (Kd.S_R HT6.out)).2.2 (Kd.R_reads' (Kd.S_R HT6.out)).2.1 HA.out.2.2.2.2.2.2.1).mono ?_
  rintro e w7 ⟨v7, rfl, hR, hB⟩
  have HR7 := Aside0.mk hR
  have HB7 := Aside0.mk (HB6.out.trans (hB.mono HB6.out.size))
  obtain ⟨A7, c7, rfl⟩ := Kd.R_slice hR
  clear hR hB HB6 HT6
  go_wp2_with fail
  refine (redactorref01_Same.calls k _ _ l0 _ _ l0 true _ (Kd.R_reads' HR7.out).2.2 (Kd.R_reads' HR7.out).2.1 (Kd.C_below HR.out HB7.out) HC.out HA.out.2.2.2.2.2.2.2).mono ?_
  rintro e w8 ⟨rfl, ⟨nd3, rfl⟩⟩
  have HB8 := Aside0.mk (pw_below_drewN HB7.out nd3)
  clear HB7
  go_wp2
  go_ret
  exact ⟨rfl, HB8.out⟩
/-- What tells comes to. -/
def redactorlaw05_tells.f (l0 : List Int) (a1 : Int) : Option Bool := if l0.length ≤ 1000 then some true else none
theorem redactorlaw05_tells.calls (A0 : Option Addr) (c0 : Nat) (l0 : List Int) (a1 : Int) (r : Bool) (w : World) (hr0 : Kd.C (Kd.int .i32) w A0 l0.length l0) (hc0 : l0.length ≤ c0) (h : redactorlaw05_tells.f l0 a1 = some r) :
    Calls Try.prog 13 #[.slice A0 l0.length c0, .int .i64 a1] w fun e w' => e = .returned (.bool r) ∧ Below w.heap.size w w' := by
  unfold redactorlaw05_tells.f at h
  split at h
  · cases h
    exact tells_calls A0 c0 l0 a1 w hr0 hc0 (by assumption)
  · cases h
end Go.Proofs.Ytgfanljjldcdfaa.PAll
