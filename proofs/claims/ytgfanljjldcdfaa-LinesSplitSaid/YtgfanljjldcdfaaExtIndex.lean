import Derived.Test.YtgfanljjldcdfaaPAllx0
import Derived.StillTailTactics
import Derived.WalkSpells
import Derived.WalkLawsBesides
namespace Go.Proofs.Ytgfanljjldcdfaa.PAll
open Go.RowKit Go.Proofs.YtgfanljjldcdfaaW.PrintWords Go.Proofs.YtgfanljjldcdfaaW.PrintLast Go.Proofs.YtgfanljjldcdfaaW.PrintMore
/-- How many cells stand ahead of the first end. -/
def lineLen : List Int → Nat
  | [] => 0
  | c :: r => if c = 10 then 0 else lineLen r + 1
theorem lineLen_le (l : List Int) : lineLen l ≤ l.length := by
  induction l with
  | nil => simp [lineLen]
  | cons c r ih => unfold lineLen; split <;> simp <;> omega
theorem lineLen_at {l : List Int} (h : lineLen l < l.length) : l.getD (lineLen l) 0 = 10 := by
  induction l with
  | nil => simp at h
  | cons c r ih =>
    unfold lineLen at h ⊢
    split
    · rename_i hc; simpa using hc
    · rename_i hc; rw [if_neg hc] at h; simpa using ih (by simpa using h)
theorem lineLen_ahead {l : List Int} {k : Nat} (h : k < lineLen l) : l.getD k 0 ≠ 10 := by
  induction l generalizing k with
  | nil => simp [lineLen] at h
  | cons c r ih =>
    unfold lineLen at h
    split at h
    · omega
    · rename_i hc
      cases k with
      | zero => simpa using hc
      | succ k => simpa using ih (k := k) (by omega)
theorem int_cell {k0 : IntKind} {w : World} {ad : Addr} {l0 : List Int} (h : Kd.C (Kd.int k0) w (some ad) l0.length l0) {k : Nat} (hk : k < l0.length) : w.cell? (ad.add k) = some (.int k0 (l0.getD k 0)) := by
  obtain ⟨ad', c, e, hl, hK, hc⟩ := Kd.C_get h 0 (k : Int) (by omega) (by omega)
  cases e
  have hK' : c = [.int k0 (l0.getD ((k : Int)).toNat 0)] := hK
  subst hK'
  have := hc 0 _ rfl
  simpa [Kd.int, Kd.scalar] using this
theorem meas_k {n k : Nat} (h : k < n) (hw : wrap64 ((k : Int) + 1) = (k : Int) + 1) : n - (intOf (.int .i64 (wrap64 ((k : Int) + 1)))).toNat < n - (intOf (.int .i64 (k : Int))).toNat := by
  rw [hw]
  show n - ((k : Int) + 1).toNat < n - (k : Int).toNat
  omega
theorem small_wrap {k : Nat} (h : k < 1099511627776) : wrap64 ((k : Int) + 1) = (k : Int) + 1 := by unfold wrap64; omega

/-- slices.Index of 0a, where there is one. -/
theorem index_some (ad : Addr) (c : Nat) (l : List Int) (w : World) (hC : Kd.C (Kd.int .i32) w (some ad) l.length l) (hn : l.length < 1099511627776) (hf : lineLen l < l.length) :
    Calls Try.prog 24 #[.slice (some ad) l.length c, .int .i32 10] w fun e w' => e = .returned (.int .i64 (lineLen l)) ∧ w = w' := by
  have HC := Aside0.mk hC
  have HN := Aside0.mk hn
  have HF := Aside0.mk hf
  clear hC hn hf
  go_enter Try.func24, Try.ntmps24
  go_wp2
  go_loop [8] (fun v => ∃ k : Nat, Aside0 (k ≤ lineLen l) ∧ v = .int .i64 k) (fun v => l.length - (intOf v).toNat)
  case atStart => exact ⟨0, ⟨Nat.zero_le _⟩, rfl⟩
  case round =>
    obtain ⟨k, hk, rfl⟩ := hrel
    have hkl : k < l.length := Nat.lt_of_le_of_lt hk.out HF.out
    have hw : wrap64 ((k : Int) + 1) = (k : Int) + 1 := small_wrap (Nat.lt_trans hkl HN.out)
    have hc := int_cell HC.out hkl
    have b1 : (k : Int) < l.length := by omega
    have b0 : decide (k < l.length) = true := by simpa using hkl
    have HK := Aside0.mk hkl
    clear hkl
    rcases Nat.lt_or_eq_of_le hk.out with hlt | heq
    · have hx := lineLen_ahead hlt
      generalize l.getD k 0 = x at hc hx
      have hxb : ((10 : Int) == x) = false := by simpa using fun h => hx h.symm
      have HL := Aside0.mk hlt
      clear hlt hx
      go_wp2
      go_round
      case rel => exact ⟨k + 1, ⟨HL.out⟩, by rw [hw]; go_num⟩
      case measure => exact meas_k HK.out hw
    · have hx := lineLen_at HF.out
      rw [← heq] at hx
      rw [hx] at hc
      have HE := Aside0.mk heq
      clear hx heq
      go_wp2
      go_ret
      exact ⟨by rw [← HE.out]; rfl, rfl⟩
/-- slices.Index of 0a, where there is none. -/
theorem index_none (ad : Addr) (c : Nat) (l : List Int) (w : World) (hC : Kd.C (Kd.int .i32) w (some ad) l.length l) (hn : l.length < 1099511627776) (hf : lineLen l = l.length) :
    Calls Try.prog 24 #[.slice (some ad) l.length c, .int .i32 10] w fun e w' => e = .returned (.int .i64 (-1)) ∧ w = w' := by
  have HC := Aside0.mk hC
  have HN := Aside0.mk hn
  have HF := Aside0.mk hf
  clear hC hn hf
  go_enter Try.func24, Try.ntmps24
  go_wp2
  go_loop [8] (fun v => ∃ k : Nat, Aside0 (k ≤ l.length) ∧ v = .int .i64 k) (fun v => l.length - (intOf v).toNat)
  case atStart => exact ⟨0, ⟨Nat.zero_le _⟩, rfl⟩
  case round =>
    obtain ⟨k, hk, rfl⟩ := hrel
    rcases Nat.lt_or_eq_of_le hk.out with hkl | heq
    · have hw : wrap64 ((k : Int) + 1) = (k : Int) + 1 := small_wrap (Nat.lt_trans hkl HN.out)
      have hc := int_cell HC.out hkl
      have b0 : decide (k < l.length) = true := by simpa using hkl
      have b1 : (k : Int) < l.length := by omega
      have hx := lineLen_ahead (l := l) (k := k) (by rw [HF.out]; exact hkl)
      have HK := Aside0.mk hkl
      clear hkl
      generalize l.getD k 0 = x at hc hx
      have hxb : ((10 : Int) == x) = false := by simpa using fun h => hx h.symm
      clear hx
      go_wp2
      go_round
      case rel => exact ⟨k + 1, ⟨HK.out⟩, by rw [hw]; go_num⟩
      case measure => exact meas_k HK.out hw
    · subst heq
      go_wp2
      go_ret
      exact ⟨rfl, rfl⟩

/-- each lays the cells into a block of its own. -/
theorem each_calls (A : Option Addr) (n c : Nat) (w : World) :
    Calls Try.prog 17 #[.slice A n c] w fun e w' => e = .returned (.func (.func 23) #[] #[.pointer (some ⟨w.heap.size, 0, none⟩)]) ∧ w.alloc (.cells #[.slice A n c] 23) = w' := by
  go_enter Try.func17, Try.ntmps17
  go_wp2
  go_ret
  exact ⟨rfl, rfl⟩
end Go.Proofs.Ytgfanljjldcdfaa.PAll
