/- subst's next, in one contract: what a step of a reader is. -/
import Derived.Test.YtfgccmgfkfhfcaaExtNext
namespace Go.Proofs.Ytfgccmgfkfhfcaa.PAll
open Go.RowKit Go.Proofs.YtfgccmgfkfhfcaaW.PrintWords Go.Proofs.YtfgccmgfkfhfcaaW.PrintLast Go.Proofs.YtfgccmgfkfhfcaaW.PrintMore
set_option linter.unusedVariables false
set_option linter.unusedSimpArgs false
structure StepR where
  c : Int
  esc : Bool
  pl : Int
  more : Bool
  err : Int
  place : Int
  k : Nat
/-- A step at place k. -/
def stepR (l : List Int) (e : Int) (k : Nat) : StepR :=
  if l.length ≤ k then ⟨0, false, 0, false, 30, l.length, k⟩
  else if l.getD k 0 = e then ⟨l.getD k 0, false, k, false, 0, 0, k + 1⟩
  else if l.getD k 0 = 10 then ⟨l.getD k 0, false, k, false, 30, k, k + 1⟩
  else if l.getD k 0 ≠ 92 then ⟨l.getD k 0, false, k, true, 0, 0, k + 1⟩
  else if l.length ≤ k + 1 then ⟨l.getD k 0, false, k, false, 30, l.length, k + 1⟩
  else ⟨l.getD (k + 1) 0, true, k, true, 0, 0, k + 2⟩
theorem wrapk {k : Nat} (h : k < 1099511627776) : wrap64 ((k : Int) + 1) = (k : Int) + 1 := by unfold wrap64; omega
theorem wrapk2 {k : Nat} (h : k < 1099511627776) : wrap64 ((k : Int) + 1 + 1) = (k : Int) + 1 + 1 := by unfold wrap64; omega
theorem next_calls (g : Nat) (A : Option Addr) (c0 k : Nat) (e : Int) (l : List Int) (w : World) (hb : w.heap[g]? = some (.cells #[.slice A l.length c0, .int .i64 k, .int .i32 e] 56 (0, 0))) (hC : (Kd.int .i32).C w A l.length l) (hA : 0 < l.length → ∀ ad, A = some ad → ad.block ≠ g) (hn : l.length < 1099511627776) :
    Calls Try.prog 22 #[.pointer (some ⟨g, 0, none⟩)] w fun r w' => r = .returned (.tuple #[.agg #[.int .i32 (stepR l e k).c, .bool (stepR l e k).esc, .int .i64 (stepR l e k).pl], .bool (stepR l e k).more, .int .u16 (stepR l e k).err, .int .i64 (stepR l e k).place]) ∧ w.grownBy w' (some g) ∧
      w'.heap[g]? = some (.cells #[.slice A l.length c0, .int .i64 (stepR l e k).k, .int .i32 e] 56 (0, 0)) := by
  by_cases h0 : l.length ≤ k
  · have := next_end g A l.length c0 k e w hb h0
    have hs : stepR l e k = ⟨0, false, 0, false, 30, l.length, k⟩ := by unfold stepR; rw [if_pos h0]
    rw [hs]; exact this
  · have hk : k < l.length := by omega
    obtain ⟨ad, rfl, _⟩ := hC.2.2 (by omega)
    have hgl := hA (by omega) ad rfl
    have hc := int_cell hC hk
    have hw := wrapk (k := k) (by omega)
    by_cases h1 : l.getD k 0 = e
    · have := next_sign g ad l.length c0 k e _ w hb hk hc hgl hw h1
      have hs : stepR l e k = ⟨l.getD k 0, false, k, false, 0, 0, k + 1⟩ := by unfold stepR; rw [if_neg h0, if_pos h1]
      rw [hs]; exact this
    by_cases h2 : l.getD k 0 = 10
    · have := next_ended g ad l.length c0 k e _ w hb hk hc hgl hw h1 h2
      have hs : stepR l e k = ⟨l.getD k 0, false, k, false, 30, k, k + 1⟩ := by unfold stepR; rw [if_neg h0, if_neg h1, if_pos h2]
      rw [hs]; exact this
    by_cases h3 : l.getD k 0 = 92
    · by_cases h4 : l.length ≤ k + 1
      · have := next_last g ad l.length c0 k e _ w hb hk hc hgl hw h1 h3 h4
        have hs : stepR l e k = ⟨l.getD k 0, false, k, false, 30, l.length, k + 1⟩ := by unfold stepR; rw [if_neg h0, if_neg h1, if_neg h2, if_neg (fun h => h h3), if_pos h4]
        rw [hs]; exact this
      · have := next_stroke g ad l.length c0 k e _ _ w hb hk hc hgl hw h1 h3 (by omega) (int_cell hC (k := k + 1) (by omega)) (wrapk2 (by omega))
        have hs : stepR l e k = ⟨l.getD (k + 1) 0, true, k, true, 0, 0, k + 2⟩ := by unfold stepR; rw [if_neg h0, if_neg h1, if_neg h2, if_neg (fun h => h h3), if_neg h4]
        rw [hs]; exact this
    · have := next_plain g ad l.length c0 k e _ w hb hk hc hgl hw h1 h2 h3
      have hs : stepR l e k = ⟨l.getD k 0, false, k, true, 0, 0, k + 1⟩ := by unfold stepR; rw [if_neg h0, if_neg h1, if_neg h2, if_pos h3]
      rw [hs]; exact this
/-- What came in lies ahead of what is new. -/
theorem C_block {k0 : IntKind} {w : World} {A : Option Addr} {l : List Int} (h : Kd.C (Kd.int k0) w A l.length l) : 0 < l.length → ∀ ad, A = some ad → ad.block < w.heap.size := by
  intro h0 ad e
  subst e
  have := World.block_lt_of_cell? w _ (int_cell h (k := 0) h0)
  simpa [Addr.add] using this
end Go.Proofs.Ytfgccmgfkfhfcaa.PAll
