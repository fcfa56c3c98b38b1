/- The row of the law SubstExpands: true of every input, each argument reads as it did. (Written by wip/tools/row.py.) -/
import Derived.Test.YtfgccmgfkfhfcaaRows
import Derived.Test.YtfgccmgfkfhfcaaPureX3
import Derived.Test.YtfgccmgfkfhfcaaExtOpenB
import Derived.WalkKit
import Derived.ProofKit
import Derived.OpenShut
import Derived.ShutString
import Derived.ChangeOld
import Derived.Below
import Derived.SizedLaws
import Derived.Deep.CondSized
namespace Go.Proofs.Ytfgccmgfkfhfcaa.substExpands
open Go.ChangeShapes Go.WideShapes Go.ChangeAt Go.RowKit Go.Proofs.Ytfgccmgfkfhfcaa.PAll Go.Proofs.YtfgccmgfkfhfcaaW.PrintWords
open Go.ChangeMaps (open_string shut_string)
set_option linter.unusedVariables false
theorem own : ownKnob Try.prog.godebug = none := by kernel_rfl
theorem laidOut : laidOutB Try.prog = true := by kernel_rfl
theorem bytes5 : Try.prog.bytesOf 5 = 1 := by kernel_rfl
instance : Inhabited S49 := ⟨z49⟩
instance : Inhabited S44 := ⟨z44⟩
theorem ones (l : List Int) : (l.map fun _ => 1).sum = l.length := by
  induction l with
  | nil => rfl
  | cons x r ih => simp only [List.map_cons, List.sum_cons, ih, List.length_cons]; omega
theorem ones44 (l : List S44) : l.length ≤ (l.map fun _ => 1 + 1 + 1).sum := by
  induction l with
  | nil => exact Nat.le_refl _
  | cons x r ih => simp only [List.map_cons, List.sum_cons, List.length_cons]; omega
theorem bulks (l : List S49) : Pure.bulkP l ≤ (l.map fun p => 1 + ((p.f1.map fun _ => 1).sum + 1) + 1).sum := by
  induction l with
  | nil => exact Nat.le_refl _
  | cons x r ih =>
    have e : Pure.bulkP (x :: r) = 1 + x.f1.length + Pure.bulkP r := by simp [Pure.bulkP]
    rw [e, List.map_cons, List.sum_cons, ones]; omega
theorem bound_of {H : Type} {d0 d1 d2 d3 d4 : DataW H} {p : List S49} {l : List Int} {s : List S44} (h0 : (p.map fun p => 1 + ((p.f1.map fun _ => 1).sum + 1) + 1).sum ≤ Rows.uptoBulk d0) (h1 : (l.map fun _ => 1).sum ≤ Rows.uptoBulk d1) (h2 : (s.map fun _ => 1 + 1 + 1).sum ≤ Rows.uptoBulk d2) (hk : Rows.uptoSmall H [d0, d1, d2, d3, d4] = true) : Pure.bulkP p + l.length + s.length ≤ 4000000 := by
  have h : Rows.uptoBulkAll [d0, d1, d2, d3, d4] ≤ 1048576 := of_decide_eq_true hk
  simp only [Rows.uptoBulkAll] at h
  have e0 := bulks p; have e2 := ones44 s
  rw [ones] at h1
  omega
theorem expands_walk (A0 : Option Addr) (c0 : Nat) (l0 : List S49) (A1 : Option Addr) (c1 : Nat) (l1 : List Int) (A2 : Option Addr) (c2 : Nat) (l2 : List S44) (A3 : Option Addr) (c3 : Nat) (l3 : List Int) (A4 : Option Addr) (c4 : Nat) (l4 : List Int) (w : World) (hr0 : Kd.C k49 w A0 l0.length l0) (hc0 : l0.length ≤ c0) (hr1 : Kd.C (Kd.int .i32) w A1 l1.length l1) (hc1 : l1.length ≤ c1) (hr2 : Kd.C k44 w A2 l2.length l2) (hc2 : l2.length ≤ c2) (hr3 : Kd.C (Kd.int .u8) w A3 l3.length l3) (hc3 : l3.length ≤ c3) (hr4 : Kd.C (Kd.int .u8) w A4 l4.length l4) (hc4 : l4.length ≤ c4)
    (hn : Pure.bulkP l0 + l1.length + l2.length ≤ 4000000) (h3 : l3.length * Try.prog.bytesOf 5 ≤ reachBytes) (u3 : ∀ x ∈ l3, (Lit.int .u8 x).wf = true) (h4 : l4.length * Try.prog.bytesOf 5 ≤ reachBytes) (u4 : ∀ x ∈ l4, (Lit.int .u8 x).wf = true) :
    Calls Try.prog 7 #[.slice A0 l0.length c0, .slice A1 l1.length c1, .slice A2 l2.length c2, .slice A3 l3.length c3, .slice A4 l4.length c4] w fun e w' => e = .returned (.bool true) ∧ Below w.heap.size w w' := by
  rw [bytes5] at h3 h4
  have hb : reachBytes = 140737488351232 := rfl
  rw [hb] at h3 h4
  obtain ⟨k, hk⟩ := Pure.expands_pure l0 l1 l2 l3 l4 hn h3 u3 h4 u4
  exact redactorlaw14_SubstExpands.calls k A0 c0 l0 A1 c1 l1 A2 c2 l2 A3 c3 l3 A4 c4 l4 true w hr0 hc0 hr1 hc1 hr2 hc2 hr3 hc3 hr4 hc4 hk
set_option maxRecDepth 100000 in
theorem lifted (os : Os) (started : os.Started) (H : Type) (enc : TypeId × Value → H) (F : Stop.Interp) :
    ReturnsInHanded {} Try.checked os 7 .any ((Rows.OpenSpec.upto Rows.substExpandsSpec).pre6 enc Try.prog Try.f7 Rows.substExpandsUptoRow.domain false) (((Rows.OpenSpec.upto Rows.substExpandsSpec).at F).post enc Try.prog Try.f7 false true false false) := by
  refine returnsInHanded_of_cond_sized (C := Try.checked) (s := Rows.OpenSpec.upto Rows.substExpandsSpec) (k := Rows.uptoSmall) rfl own started (by kernel_rfl) Try.func7
    (OpenSpec.witness (enc := enc) (C := Try.checked) (s := Rows.OpenSpec.upto Rows.substExpandsSpec) (k := Rows.uptoSmall) rfl false ⟨#[], #[.slice none 0 0, .slice none 0 0, .slice none 0 0, .slice none 0 0, .slice none 0 0], []⟩ 8 (by kernel_rfl) (by kernel_rfl) (by kernel_rfl)
      (x := ([.nil, .nil, .nil, .nil, .nil], [], [])) (by kernel_rfl) rfl (by kernel_rfl)) ?_
  intro W base args ds gs before hval0 hW hcnd hk hsz0 _
  have hsz : (DataW.weightsEach Try.prog (Try.f7.params.toList ++ Rows.substExpandsSpec.plain.varTypes Try.prog) (ds ++ gs)).all (· ≤ reachBytes) = true := hsz0
  have hval : ∀ (j : Nat) t v, Try.f7.params[j]? = some t → args[j]? = some v → Value.okWide Try.prog W .any base t v := hval0
  have hW' := hW
  obtain ⟨p, q, hA0, hV, rfl, hfz, hnd⟩ := hW
  have hA : DataW.TrodAll enc Try.prog W 0 (fun _ => true) true Try.f7.params.toList args.toList ds p := hA0
  rw [Try.params7] at hA hval hsz
  obtain ⟨v0, vs0, d0, ds0, p0, q0, hargs, rfl, rfl, h0, r0⟩ := trodAll_cons hA
  obtain ⟨v1, vs1, d1, ds1, p1, q1, rfl, rfl, rfl, h1, r1⟩ := trodAll_cons r0
  obtain ⟨v2, vs2, d2, ds2, p2, q2, rfl, rfl, rfl, h2, r2⟩ := trodAll_cons r1
  obtain ⟨v3, vs3, d3, ds3, p3, q3, rfl, rfl, rfl, h3, r3⟩ := trodAll_cons r2
  obtain ⟨v4, vs4, d4, ds4, p4, q4, rfl, rfl, rfl, h4, r4⟩ := trodAll_cons r3
  obtain ⟨rfl, rfl, rfl⟩ := trodAll_nil r4
  obtain rfl : args = #[v0, v1, v2, v3, v4] := by cases args; simp_all
  obtain ⟨rfl, rfl⟩ := trodVars_none hV
  obtain ⟨a0, len0, cap0, rfl⟩ := okWide_slice Try.underlying38 (hval 0 38 v0 rfl rfl)
  have k0 := h0
  have lt0 : ∀ x ∈ p0, x.block < W.heap.size := by obtain ⟨m, hm⟩ := k0; exact DataW.trod_lt m _ _ _ hm
  obtain ⟨xs0, rfl, c0, C0, f0⟩ := reads_arg (reads_slice (d := k49) Try.underlying38 (by kernel_rfl) (reads_iso (reads_struct Try.underlying49 (by kernel_rfl) (readsL_cons (reads_int Try.underlying5) (by kernel_rfl) rfl rfl (readsL_cons (reads_slice Try.underlying23 (by kernel_rfl) (reads_int Try.underlying24)) (by kernel_rfl) rfl rfl (readsL_one (reads_int Try.underlying3) (by kernel_rfl) rfl)))) (fun x : S49 => (x.f0, x.f1, x.f2)) (fun p => ⟨p.1, p.2.1, p.2.2⟩) (fun _ => rfl))) h0 (each_weights (j := 0) hsz rfl rfl)
  obtain ⟨a1, len1, cap1, rfl⟩ := okWide_slice Try.underlying23 (hval 1 23 v1 rfl rfl)
  have k1 := h1
  have lt1 : ∀ x ∈ p1, x.block < W.heap.size := by obtain ⟨m, hm⟩ := k1; exact DataW.trod_lt m _ _ _ hm
  obtain ⟨xs1, rfl, c1, C1, f1⟩ := reads_arg (reads_slice Try.underlying23 (by kernel_rfl) (reads_int Try.underlying24)) h1 (each_weights (j := 1) hsz rfl rfl)
  obtain ⟨a2, len2, cap2, rfl⟩ := okWide_slice Try.underlying45 (hval 2 45 v2 rfl rfl)
  have k2 := h2
  have lt2 : ∀ x ∈ p2, x.block < W.heap.size := by obtain ⟨m, hm⟩ := k2; exact DataW.trod_lt m _ _ _ hm
  obtain ⟨xs2, rfl, c2, C2, f2⟩ := reads_arg (reads_slice (d := k44) Try.underlying45 (by kernel_rfl) (reads_iso (reads_struct Try.underlying44 (by kernel_rfl) (readsL_cons (reads_int Try.underlying3) (by kernel_rfl) rfl rfl (readsL_one (reads_int Try.underlying3) (by kernel_rfl) rfl))) (fun x : S44 => (x.f0, x.f1)) (fun p => ⟨p.1, p.2⟩) (fun _ => rfl))) h2 (each_weights (j := 2) hsz rfl rfl)
  obtain ⟨a3, len3, cap3, rfl⟩ := okWide_slice Try.underlying22 (hval 3 22 v3 rfl rfl)
  have k3 := h3
  have lt3 : ∀ x ∈ p3, x.block < W.heap.size := by obtain ⟨m, hm⟩ := k3; exact DataW.trod_lt m _ _ _ hm
  obtain ⟨xs3, rfl, c3, C3, f3⟩ := reads_arg (reads_slice Try.underlying22 (by kernel_rfl) (reads_int Try.underlying5)) h3 (each_weights (j := 3) hsz rfl rfl)
  obtain ⟨a4, len4, cap4, rfl⟩ := okWide_slice Try.underlying22 (hval 4 22 v4 rfl rfl)
  have k4 := h4
  have lt4 : ∀ x ∈ p4, x.block < W.heap.size := by obtain ⟨m, hm⟩ := k4; exact DataW.trod_lt m _ _ _ hm
  obtain ⟨xs4, rfl, c4, C4, f4⟩ := reads_arg (reads_slice Try.underlying22 (by kernel_rfl) (reads_int Try.underlying5)) h4 (each_weights (j := 4) hsz rfl rfl)
  clear hA0 hval0 hsz0 hsz
  refine (expands_walk a0 cap0 xs0 a1 cap1 xs1 a2 cap2 xs2 a3 cap3 xs3 a4 cap4 xs4 W C0 c0 C1 c1 C2 c2 C3 c3 C4 c4 (bound_of f0.2 f1.2 f2.2 hk) f3.1.1 f3.1.2 f4.1.1 f4.1.2).mono fun e W' ⟨he, bel⟩ => ?_
  subst he
  exact ⟨_, rfl, _, _, _, [], _, [], hW', trodAll_mk1 (shut_bool Try.underlying4 _), (trodAll_cons_mk (Below.trod laidOut (by kernel_rfl) (of_decide_eq_true (by kernel_rfl)) k0 bel lt0) (trodAll_cons_mk (Below.trod laidOut (by kernel_rfl) (of_decide_eq_true (by kernel_rfl)) k1 bel lt1) (trodAll_cons_mk (Below.trod laidOut (by kernel_rfl) (of_decide_eq_true (by kernel_rfl)) k2 bel lt2) (trodAll_cons_mk (Below.trod laidOut (by kernel_rfl) (of_decide_eq_true (by kernel_rfl)) k3 bel lt3) (trodAll_cons_mk (Below.trod laidOut (by kernel_rfl) (of_decide_eq_true (by kernel_rfl)) k4 bel lt4) trodAll_mk0))))), rfl, bel.frame _, fun h => by cases h⟩
theorem proved : Rows.SubstExpandsUptoSaid :=
  OpenClaim.holds_of_cond 7 Try.f7 rfl rfl rfl rfl rfl rfl rfl ⟨rfl, rfl, rfl, rfl, rfl⟩ rfl rfl rfl rfl rfl (by kernel_rfl) Try.func7 (by kernel_rfl)
    (of_decide_eq_true (by kernel_rfl)) (by unfold Func.isWrapper; first | (rw [if_pos (by decide +kernel)]; kernel_rfl) | (rw [if_neg (by decide +kernel)]; exact ⟨rfl, rfl⟩))
    (fun os started H enc _ F => lifted os started H enc F)
#print axioms proved
end Go.Proofs.Ytfgccmgfkfhfcaa.substExpands
namespace Go.Proofs.Ytfgccmgfkfhfcaa
/-- The row, under a short name, for the claim. -/
theorem substExpands_holds : Rows.SubstExpandsUptoSaid := substExpands.proved
end Go.Proofs.Ytfgccmgfkfhfcaa
