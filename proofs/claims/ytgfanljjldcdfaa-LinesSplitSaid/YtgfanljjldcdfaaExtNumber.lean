/- lines.Number comes to the line of a place, and the place in it. -/
import Derived.Test.YtgfanljjldcdfaaExtEach
namespace Go.Proofs.Ytgfanljjldcdfaa.PAll
open Go.RowKit Go.Proofs.YtgfanljjldcdfaaW.PrintWords Go.Proofs.YtgfanljjldcdfaaW.PrintLast Go.Proofs.YtgfanljjldcdfaaW.PrintMore
set_option linter.unusedVariables false
set_option linter.unusedSimpArgs false
/-- How many ends stand among the first k cells. -/
def endsN (l : List Int) : Nat → Nat
  | 0 => 0
  | k + 1 => if l.getD k 0 = 10 then endsN l k + 1 else endsN l k
/-- Behind the last end among the first k cells. -/
def firstN (l : List Int) : Nat → Nat
  | 0 => 0
  | k + 1 => if l.getD k 0 = 10 then k + 1 else firstN l k
theorem endsN_le (l : List Int) (k : Nat) : endsN l k ≤ k := by
  induction k with
  | zero => simp [endsN]
  | succ k ih => unfold endsN; split <;> omega
theorem firstN_le (l : List Int) (k : Nat) : firstN l k ≤ k := by
  induction k with
  | zero => simp [firstN]
  | succ k ih => unfold firstN; split <;> omega
theorem cut_takeA (A : Option Addr) (c : Nat) (l : List Int) (i : Nat) (h : i ≤ l.length) (hc : l.length ≤ c) :
    ∀ W : World, (Instr.slice 23 (.slice A l.length c) none (some (.int .i64 (i : Int))) none).run Try.prog W = .ok (.slice A i c) W := by
  obtain ⟨i0, hi0, hz0⟩ := Option.map_eq_some_iff.1 info25
  have hsz : i0.size = 1 := by simp only [Prod.mk.injEq] at hz0; exact hz0.2.1
  have := (print_take_of (P := Try.prog) (Value.int .i32) (0 : Int) 23 25 .i64 Try.underlying23 hi0 hsz A c l (i : Int) (by omega) (by omega) hc).1
  simpa [Nat.min_eq_left h] using this

theorem number_low (A0 : Option Addr) (n c0 : Nat) (a1 : Int) (w : World) (h : a1 < 0) :
    Calls Try.prog 16 #[.slice A0 n c0, .int .i64 a1] w fun e w' => e = .returned (.tuple #[.int .i64 0, .int .i64 0]) ∧ w = w' := by
  have h1 : decide (a1 < 0) = true := by simpa using h
  go_enter Try.func16, Try.ntmps16
  go_wp2
  go_ret2
  exact ⟨rfl, rfl⟩
theorem number_high (A0 : Option Addr) (n c0 : Nat) (a1 : Int) (w : World) (h : (n : Int) < a1) :
    Calls Try.prog 16 #[.slice A0 n c0, .int .i64 a1] w fun e w' => e = .returned (.tuple #[.int .i64 0, .int .i64 0]) ∧ w = w' := by
  have h1 : decide (a1 < 0) = false := by simp; omega
  have h2 : decide ((n : Int) < a1) = true := by simpa using h
  clear h
  go_enter Try.func16, Try.ntmps16
  go_wp2
  go_ret2
  exact ⟨rfl, rfl⟩
set_option maxHeartbeats 1000000 in
theorem number_mid (A0 : Option Addr) (c0 : Nat) (l : List Int) (m : Nat) (w : World) (hC : Kd.C (Kd.int .i32) w A0 l.length l) (hc0 : l.length ≤ c0) (hn : l.length < 1099511627776) (hm : m ≤ l.length) :
    Calls Try.prog 16 #[.slice A0 l.length c0, .int .i64 (m : Int)] w fun e w' => e = .returned (.tuple #[.int .i64 ((endsN l m : Int) + 1), .int .i64 ((m : Int) - firstN l m + 1)]) ∧ w = w' := by
  have HC := Aside0.mk hC
  have HN := Aside0.mk hn
  have HM := Aside0.mk hm
  have h1 : decide ((m : Int) < 0) = false := by simp
  have h2 : decide ((l.length : Int) < (m : Int)) = false := by simp; omega
  have h3 : decide (l.length < m) = false := by simp; omega
  have hcut := cut_takeA A0 c0 l m hm hc0
  clear hC hc0 hn hm
  go_enter Try.func16, Try.ntmps16
  go_wp2
  go_loop [6, 24] (fun u v => ∃ k : Nat, Aside0 (k ≤ m) ∧ v = .int .i64 k ∧ u = .int .i64 ((endsN l k : Int) + 1)) (fun _ v => m - (intOf v).toNat)
  case atStart => exact ⟨0, ⟨Nat.zero_le _⟩, rfl, rfl⟩
  case round =>
    obtain ⟨k, hk, rfl, rfl⟩ := hrel
    rcases Nat.lt_or_eq_of_le hk.out with hkl | heq
    · have hll : k < l.length := Nat.lt_of_lt_of_le hkl HM.out
      have hw : wrap64 ((k : Int) + 1) = (k : Int) + 1 := small_wrap (Nat.lt_trans hll HN.out)
      obtain ⟨ad, rfl, _⟩ := HC.out.2.2 (by omega)
      have hc := int_cell HC.out hll
      have b0 : decide (k < m) = true := by simpa using hkl
      have b1 : (k : Int) < m := by omega
      have hw2 : wrap64 ((endsN l k : Int) + 1 + 1) = (endsN l k : Int) + 1 + 1 := by have := endsN_le l k; have := HN.out; unfold wrap64; omega
      have HE := Aside0.mk (show endsN l (k + 1) = if l.getD k 0 = 10 then endsN l k + 1 else endsN l k from rfl)
      have HK := Aside0.mk hkl
      clear hkl hll
      generalize l.getD k 0 = x at hc HE
      by_cases hx : x = 10
      · subst hx
        go_wp2
        go_round
        case rel => exact ⟨k + 1, ⟨HK.out⟩, by rw [hw]; go_num, by rw [HE.out, if_pos rfl, hw2]; go_num⟩
        case measure => exact meas_k HK.out hw
      · have hxb : (x == 10) = false := by simpa using hx
        have HX := Aside0.mk hx
        clear hx hw2
        go_wp2
        go_round
        case rel => exact ⟨k + 1, ⟨HK.out⟩, by rw [hw]; go_num, by rw [HE.out, if_neg HX.out]⟩
        case measure => exact meas_k HK.out hw
    · subst heq
      go_wp2
      go_loop [9, 37] (fun u v => ∃ j : Nat, Aside0 (j ≤ k) ∧ v = .int .i64 j ∧ u = .int .i64 (firstN l j)) (fun _ v => k - (intOf v).toNat)
      case atStart => exact ⟨0, ⟨Nat.zero_le _⟩, rfl, rfl⟩
      case round =>
        obtain ⟨j, hj, rfl, rfl⟩ := hrel
        rcases Nat.lt_or_eq_of_le hj.out with hkl | heq
        · have hll : j < l.length := Nat.lt_of_lt_of_le hkl HM.out
          have hw : wrap64 ((j : Int) + 1) = (j : Int) + 1 := small_wrap (Nat.lt_trans hll HN.out)
          obtain ⟨ad, rfl, _⟩ := HC.out.2.2 (by omega)
          have hc := int_cell HC.out hll
          have b0 : decide (j < k) = true := by simpa using hkl
          have b1 : (j : Int) < k := by omega
          have HE := Aside0.mk (show firstN l (j + 1) = if l.getD j 0 = 10 then j + 1 else firstN l j from rfl)
          have HK := Aside0.mk hkl
          clear hkl hll
          generalize l.getD j 0 = x at hc HE
          by_cases hx : x = 10
          · subst hx
            go_wp2
            go_round
            case rel => exact ⟨j + 1, ⟨HK.out⟩, by rw [hw]; go_num, by rw [HE.out, if_pos rfl, hw]; go_num⟩
            case measure => exact meas_k HK.out hw
          · have hxb : (x == 10) = false := by simpa using hx
            have HX := Aside0.mk hx
            clear hx
            go_wp2
            go_round
            case rel => exact ⟨j + 1, ⟨HK.out⟩, by rw [hw]; go_num, by rw [HE.out, if_neg HX.out]⟩
            case measure => exact meas_k HK.out hw
        · subst heq
          have hf := firstN_le l j
          have hw3 : wrap64 ((j : Int) - firstN l j) = (j : Int) - firstN l j := by have := HN.out; have := HM.out; unfold wrap64; omega
          have hw4 : wrap64 ((j : Int) - firstN l j + 1) = (j : Int) - firstN l j + 1 := by have := HN.out; have := HM.out; unfold wrap64; omega
          clear hf
          go_wp2
          go_ret2
          exact ⟨rfl, rfl⟩
/-- What Number comes to. -/
def lines_Number.f (l0 : List Int) (a1 : Int) : Option (Int × Int) :=
  if l0.length < 1099511627776 then (if a1 < 0 then some (0, 0) else if (l0.length : Int) < a1 then some (0, 0) else some ((endsN l0 a1.toNat : Int) + 1, a1 - firstN l0 a1.toNat + 1)) else none
theorem lines_Number.calls (A0 : Option Addr) (c0 : Nat) (l0 : List Int) (a1 : Int) (r1 : Int) (r2 : Int) (w : World) (hr0 : Kd.C (Kd.int .i32) w A0 l0.length l0) (hc0 : l0.length ≤ c0) (h : lines_Number.f l0 a1 = some (r1, r2)) :
    Calls Try.prog 16 #[.slice A0 l0.length c0, .int .i64 a1] w fun e w' => e = .returned (.tuple #[.int .i64 r1, .int .i64 r2]) ∧ Below w.heap.size w w' := by
  unfold lines_Number.f at h
  split at h
  · rename_i hn
    split at h
    · cases h
      refine (number_low A0 l0.length c0 a1 w (by assumption)).mono ?_
      rintro e w' ⟨rfl, rfl⟩
      exact ⟨rfl, Below.refl _ _⟩
    · split at h
      · cases h
        refine (number_high A0 l0.length c0 a1 w (by assumption)).mono ?_
        rintro e w' ⟨rfl, rfl⟩
        exact ⟨rfl, Below.refl _ _⟩
      · cases h
        obtain ⟨m, rfl⟩ := Int.eq_ofNat_of_zero_le (show 0 ≤ a1 by omega)
        refine (number_mid A0 c0 l0 m w hr0 hc0 hn (by omega)).mono ?_
        rintro e w' ⟨rfl, rfl⟩
        exact ⟨rfl, Below.refl _ _⟩
  · cases h
end Go.Proofs.Ytgfanljjldcdfaa.PAll
