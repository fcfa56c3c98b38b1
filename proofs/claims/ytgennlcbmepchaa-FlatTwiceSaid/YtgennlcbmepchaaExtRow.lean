/- Cmds of any choices; FlatLeads of any choices. -/
import Derived.Test.YtgennlcbmepchaaExtLeads
namespace Go.Proofs.Ytgennlcbmepchaa.PAll
open Go.RowKit Go.Maps Go.WideMaps Go.Proofs.YtgennlcbmepchaaW.PrintWords Go.Proofs.YtgennlcbmepchaaW.PrintLast Go.Proofs.YtgennlcbmepchaaW.PrintMore
set_option linter.unusedVariables false

set_option maxRecDepth 100000 in
theorem cmds_none (A : Option Addr) (c0 : Nat) (w : World) :
    Calls Try.prog 9 #[.slice A 0 c0] w fun e w' => ∃ v : Value, e = .returned v ∧ Kd.N k32 32 w' w.heap.size (fun _ => True) v [] ∧ Below w.heap.size w w' := by
  go_enter Try.func9, Try.ntmps9
  go_wp2
  go_loop [3, 4] (fun v3 v4 => v3 = .slice none 0 0 ∧ v4 = .int .i64 0) (fun _ v4 => 0)
  case atStart => exact ⟨rfl, rfl⟩
  case round =>
    obtain ⟨rfl, rfl⟩ := hrel
    go_wp2
    go_ret
    exact ⟨_, rfl, Kd.N_nil _ _ _ _ _, Below.refl _ _⟩
/-- Cmds, of any choices. -/
theorem cmds_all (A : Option Addr) (c0 : Nat) (l0 : List Int) (w : World) (hr0 : Kd.C (Kd.int .u8) w A l0.length l0) (hz : ∀ n ∈ l0, 0 ≤ n ∧ n < 256) :
    Calls Try.prog 9 #[.slice A l0.length c0] w fun e w' => ∃ v : Value, e = .returned v ∧ Kd.N k32 32 w' w.heap.size (fun _ => True) v (cmdsL l0 (min l0.length 30)) ∧ Below w.heap.size w w' := by
  rcases Nat.eq_zero_or_pos l0.length with h0 | h0
  · have : l0 = [] := List.eq_nil_of_length_eq_zero h0
    subst this
    exact cmds_none A c0 w
  · obtain ⟨ad, c, e, _⟩ := Kd.C_get hr0 0 0 (by omega) (by omega)
    subst e
    refine cmds_calls ad c0 l0 w hr0 (fun k hk => ?_)
    rw [List.getD_eq_getElem?_getD, List.getElem?_eq_getElem hk]
    exact hz _ (List.getElem_mem hk)
theorem labOf_size (x : Int) : (labOf x).size ≤ maxLen := by
  have h2 : 2 ≤ maxLen := by decide
  have h1 := lab0_size x
  unfold labOf
  split
  · omega
  · split
    · split
      · rw [ByteArray.size_append, str1_size]; omega
      · omega
    · exact Nat.zero_le _
theorem cmdsL_sizes {l : List Int} {k : Nat} : ∀ x ∈ cmdsL l k, x.f5.size ≤ maxLen := by
  intro x hx
  unfold cmdsL at hx
  obtain ⟨i, _, rfl⟩ := List.mem_map.mp hx
  exact labOf_size _
theorem u8_of_wf {a : Int} (h : (Lit.int .u8 a).wf = true) : 0 ≤ a ∧ a < 256 := by
  have e0 : IntKind.u8.min = 0 := by decide
  have e1 : IntKind.u8.max = 255 := by decide
  simp only [Lit.wf, decide_eq_true_eq, Bool.and_eq_true, e0, e1] at h
  omega
theorem leads_row (a0 : Option Addr) (len0 cap0 : Nat) (z0 : List Int) (w : World) (w0 : (a0 = none ∧ len0 = 0 ∧ cap0 = 0 ∧ z0 = []) ∨ ∃ x, a0 = some x ∧ len0 ≤ cap0 ∧ cap0 ≤ maxLen ∧ z0.length = cap0 ∧ (∀ i, i < z0.length → w.cell? (x.add i) = some (.int .u8 (z0.getD i 0))) ∧ ∀ n ∈ z0, (Lit.int .u8 n).wf = true) :
    Calls Try.prog 4 #[.slice a0 len0 cap0] w fun e w' => e = .returned (.bool true) ∧ Below w.heap.size w w' := by
  obtain ⟨l0, rfl, hr0, hm0, hw0, hc0⟩ := ReadsInt.ofRowC w0
  exact leads_calls a0 l0.length cap0 w (cmdsL l0 (min l0.length 30)) (cmds_all a0 cap0 l0 w (Kd.C_of_reads (d := (0 : Int)) (h1 := fun _ => rfl) hr0) (fun n hn => u8_of_wf (hw0 n hn))) (by rw [cmdsL_length]; omega) cmdsL_sizes
end Go.Proofs.Ytgennlcbmepchaa.PAll
