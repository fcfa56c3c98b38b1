/- FlatTwice: resolved again it is the same. -/
import Derived.Test.YtgennlcbmepchaaExtSame
namespace Go.Proofs.Ytgennlcbmepchaa.PAll
open Go.RowKit Go.Maps Go.WideMaps Go.Proofs.YtgennlcbmepchaaW.PrintWords Go.Proofs.YtgennlcbmepchaaW.PrintLast Go.Proofs.YtgennlcbmepchaaW.PrintMore
set_option linter.unusedVariables false
set_option linter.unusedSimpArgs false
section
variable {l : List S32} {J : Nat → Int}
theorem noteJ_mk {s : JSt} {i : Nat} (hi : i < l.length) : noteJ (mkL l J) s i = noteJ l s i := by
  unfold noteJ
  rw [mkL_at J hi]
  rfl
theorem leadJ_mk {lb : List (ByteArray × Int)} {K : Nat → Int} {i : Nat} (hi : i < l.length) : leadJ (mkL l J) lb K i = leadJ l lb K i := by
  unfold leadJ
  rw [mkL_at J hi, mkL_length]
  rfl
theorem notesJ_mk : ∀ (d i : Nat) (s : JSt), i + d ≤ l.length → notesJ (mkL l J) d s i = notesJ l d s i
  | 0, i, s, h => rfl
  | d + 1, i, s, h => by
    simp only [notesJ]
    rw [noteJ_mk (by omega), mkL_at J (by omega)]
    cases noteJ l s i with
    | error e => rfl
    | ok r => exact notesJ_mk d (i + 1) r (by omega)
theorem leadsJ_mk {lb : List (ByteArray × Int)} : ∀ (d i : Nat) (K : Nat → Int), i + d ≤ l.length → leadsJ (mkL l J) lb d K i = leadsJ l lb d K i
  | 0, i, K, h => rfl
  | d + 1, i, K, h => by
    simp only [leadsJ]
    rw [leadJ_mk (by omega), mkL_at J (by omega)]
    cases leadJ l lb K i with
    | error e => rfl
    | ok r => exact leadsJ_mk d (i + 1) r (by omega)
theorem mkL_mkL (K : Nat → Int) : mkL (mkL l J) K = mkL l K := by
  refine at_ext (by rw [mkL_length, mkL_length, mkL_length]) (fun i hi => ?_)
  rw [mkL_length] at hi
  have hi2 : i < l.length := by rwa [mkL_length] at hi
  rw [mkL_at K hi, mkL_at J hi2, mkL_at K hi2]
  rfl
end
/-- Resolved again it is the same; an error comes with nothing. -/
theorem resolve_twice (l : List S32) : (∃ e p, e ≠ 0 ∧ resolveP l = ([], e, p)) ∨ ∃ J, resolveP l = (mkL l J, 0, 0) ∧ resolveP (mkL l J) = (mkL l J, 0, 0) := by
  rcases resolve_cases l with ⟨e, p, h, hr⟩ | ⟨s, e, p, _, h, hr⟩ | ⟨s, J, hn, hl, hr⟩
  · exact .inl ⟨e, p, notesJ_ne _ h, hr⟩
  · exact .inl ⟨e, p, leadsJ_ne _ h, hr⟩
  · refine .inr ⟨J, hr, ?_⟩
    have h1 : notesJ (mkL l J) (mkL l J).length js0 0 = .ok s := by rw [mkL_length, notesJ_mk _ _ _ (by omega)]; exact hn
    have h2 : leadsJ (mkL l J) s.lb (mkL l J).length s.J 0 = .ok J := by rw [mkL_length, leadsJ_mk _ _ _ (by omega)]; exact hl
    rw [resolve_ok h1 h2, mkL_mkL]
theorem plain_cmds (l : List Int) (k : Nat) : Plain (cmdsL l k) := by
  intro x hx
  unfold cmdsL at hx
  obtain ⟨i, _, rfl⟩ := List.mem_map.mp hx
  exact ⟨_, _, _, _, rfl⟩
theorem at_mem {l : List S32} {i : Nat} (h : i < l.length) : at32 l i ∈ l := by
  unfold at32
  rw [List.getD_eq_getElem?_getD, List.getElem?_eq_getElem h]
  exact List.getElem_mem h
theorem plain_mk {l : List S32} (J : Nat → Int) (h : Plain l) : Plain (mkL l J) := by
  intro x hx
  unfold mkL at hx
  obtain ⟨i, hi, rfl⟩ := List.mem_map.mp hx
  obtain ⟨op, lab, j, p, e⟩ := h (at32 l i) (at_mem (List.mem_range.mp hi))
  exact ⟨op, lab, J i, p, by rw [e]; rfl⟩
theorem sizes_mk {l : List S32} (J : Nat → Int) (h : ∀ x ∈ l, x.f5.size ≤ maxLen) : ∀ x ∈ mkL l J, x.f5.size ≤ maxLen := by
  intro x hx
  unfold mkL at hx
  obtain ⟨i, hi, rfl⟩ := List.mem_map.mp hx
  exact h (at32 l i) (at_mem (List.mem_range.mp hi))
theorem resolve_N {v : Value} {l0 r1 : List S32} {r2 r3 : Int} {w : World} {ok : Nat → Prop} {base : Nat} (hs0 : Kd.N k32 32 w base ok v l0) (h : flat_Resolve.f l0 = some (r1, r2, r3)) :
    Calls Try.prog 7 #[v] w fun e w' => ∃ v0_ : Value, e = .returned (.tuple #[v0_, .int .u16 r2, .int .i64 r3]) ∧ Kd.N k32 32 w' w.heap.size (fun _ => True) v0_ r1 ∧ Below w.heap.size w w' := by
  obtain ⟨A, c, rfl⟩ := Kd.N_slice hs0
  exact resolve_calls A _ c l0 r1 r2 r3 w rfl hs0 h
set_option maxHeartbeats 1000000 in
set_option maxRecDepth 100000 in
theorem twice_calls (A : Option Addr) (n c0 : Nat) (w : World) (cmds l1 : List S32) (e0 p0 : Int)
  (hcmds : ∀ W, Below w.heap.size w W → Calls Try.prog 9 #[.slice A n c0] W fun e w' => ∃ v : Value, e = .returned v ∧ Kd.N k32 32 w' W.heap.size (fun _ => True) v cmds ∧ Below W.heap.size W w') (hr : cmds.length < 1000) (hp : Plain cmds)
  (f1 : flat_Resolve.f cmds = some (l1, e0, p0)) (f2 : flat_Resolve.f l1 = some (l1, 0, 0)) (hr1 : l1.length < 1000) (hp1 : Plain l1) :
    Calls Try.prog 5 #[.slice A n c0] w fun e w' => e = .returned (.bool true) ∧ Below w.heap.size w w' := by
  have HR := Aside0.mk hr
  have HP := Aside0.mk hp
  have HR1 := Aside0.mk hr1
  have HP1 := Aside0.mk hp1
  have HF1 := Aside0.mk f1
  have HF2 := Aside0.mk f2
  have HC := Aside0.mk hcmds
  have HB := Aside0.mk (Below.refl w.heap.size w)
  clear hr hp hr1 hp1 f1 f2 hcmds
  by_cases he : e0 = 0
  · subst he
    go_enter Try.func5, Try.ntmps5
    go_wp2_with (first | (go_at_call 9; have HF1_ := HF1; clear HF1_; (refine (HC.out _ HB.out).mono ?_); rintro e w1 ⟨v1, rfl, hN, hB⟩; have HX := Aside0.mk hN; have HB1 := Aside0.mk (HB.out.trans (hB.mono HB.out.size)); clear HB; have HB := HB1; clear HB1; clear hN hB; have HQ1 := HF1; clear HF1) | (go_at_call 7; (refine (resolve_N HX.out HQ1.out).mono ?_); rintro e w2 ⟨v2, rfl, hN, hB⟩; have HX2 := Aside0.mk (Kd.N_below HX.out hB); have HL := Aside0.mk hN; have HB1 := Aside0.mk (HB.out.trans (hB.mono HB.out.size)); clear HB; have HB := HB1; clear HB1; clear hN hB HX HQ1; have HQ2 := HF2; clear HF2) | (go_at_call 7; (refine (resolve_N HL.out HQ2.out).mono ?_); rintro e w3 ⟨v3, rfl, hN, hB⟩; have HX3 := Aside0.mk (Kd.N_below HX2.out hB); have HL3 := Aside0.mk (Kd.N_below HL.out hB); have HM3 := Aside0.mk hN; have HB1 := Aside0.mk (HB.out.trans (hB.mono HB.out.size)); clear HB; have HB := HB1; clear HB1; clear hN hB HX2 HL HQ2) | (go_at_call 9; have H3_ := HX3; clear H3_; (refine (HC.out _ HB.out).mono ?_); rintro e w4 ⟨v4, rfl, hN, hB⟩; have HX4 := Aside0.mk (Kd.N_below HX3.out hB); have HL4 := Aside0.mk (Kd.N_below HL3.out hB); have HM4 := Aside0.mk (Kd.N_below HM3.out hB); have HY4 := Aside0.mk hN; have HB1 := Aside0.mk (HB.out.trans (hB.mono HB.out.size)); clear HB; have HB := HB1; clear HB1; clear hN hB HX3 HL3 HM3) | (go_at_call 10; (refine (same_N HX4.out HY4.out HP.out HR.out).mono ?_); rintro e w5 ⟨rfl, hB⟩; have HL5 := Aside0.mk (Kd.N_below HL4.out hB); have HM5 := Aside0.mk (Kd.N_below HM4.out hB); have HB1 := Aside0.mk (HB.out.trans (hB.mono HB.out.size)); clear HB; have HB := HB1; clear HB1; clear hB HX4 HY4 HL4 HM4) | (go_at_call 10; (refine (same_N HL5.out HM5.out HP1.out HR1.out).mono ?_); rintro e w6 ⟨rfl, hB⟩; have HB1 := Aside0.mk (HB.out.trans (hB.mono HB.out.size)); clear HB; have HB := HB1; clear HB1; clear hB HL5 HM5) | (go_at_call 8; (refine (redactorlaw16_known.calls true _ known_true).mono ?_); rintro e w7 ⟨rfl, hB⟩; have HB1 := Aside0.mk (HB.out.trans (hB.mono HB.out.size)); clear HB; have HB := HB1; clear HB1; clear hB))
    go_ret
    exact ⟨rfl, HB.out⟩
  · have hneb : (e0 != 0) = true := bne_iff_ne.mpr he
    have heqb : (e0 == 0) = false := beq_eq_false_iff_ne.mpr he
    go_enter Try.func5, Try.ntmps5
    go_wp2_with (first | (go_at_call 9; have HF1_ := HF1; clear HF1_; (refine (HC.out _ HB.out).mono ?_); rintro e w1 ⟨v1, rfl, hN, hB⟩; have HX := Aside0.mk hN; have HB1 := Aside0.mk (HB.out.trans (hB.mono HB.out.size)); clear HB; have HB := HB1; clear HB1; clear hN hB; have HQ1 := HF1; clear HF1) | (go_at_call 7; (refine (resolve_N HX.out HQ1.out).mono ?_); rintro e w2 ⟨v2, rfl, hN, hB⟩; have HX2 := Aside0.mk (Kd.N_below HX.out hB); have HL := Aside0.mk hN; have HB1 := Aside0.mk (HB.out.trans (hB.mono HB.out.size)); clear HB; have HB := HB1; clear HB1; clear hN hB HX HQ1; have HQ2 := HF2; clear HF2) | (go_at_call 7; (refine (resolve_N HL.out HQ2.out).mono ?_); rintro e w3 ⟨v3, rfl, hN, hB⟩; have HX3 := Aside0.mk (Kd.N_below HX2.out hB); have HL3 := Aside0.mk (Kd.N_below HL.out hB); have HM3 := Aside0.mk hN; have HB1 := Aside0.mk (HB.out.trans (hB.mono HB.out.size)); clear HB; have HB := HB1; clear HB1; clear hN hB HX2 HL HQ2) | (go_at_call 9; have H3_ := HX3; clear H3_; (refine (HC.out _ HB.out).mono ?_); rintro e w4 ⟨v4, rfl, hN, hB⟩; have HX4 := Aside0.mk (Kd.N_below HX3.out hB); have HL4 := Aside0.mk (Kd.N_below HL3.out hB); have HM4 := Aside0.mk (Kd.N_below HM3.out hB); have HY4 := Aside0.mk hN; have HB1 := Aside0.mk (HB.out.trans (hB.mono HB.out.size)); clear HB; have HB := HB1; clear HB1; clear hN hB HX3 HL3 HM3) | (go_at_call 10; (refine (same_N HX4.out HY4.out HP.out HR.out).mono ?_); rintro e w5 ⟨rfl, hB⟩; have HL5 := Aside0.mk (Kd.N_below HL4.out hB); have HM5 := Aside0.mk (Kd.N_below HM4.out hB); have HB1 := Aside0.mk (HB.out.trans (hB.mono HB.out.size)); clear HB; have HB := HB1; clear HB1; clear hB HX4 HY4 HL4 HM4) | (go_at_call 10; (refine (same_N HL5.out HM5.out HP1.out HR1.out).mono ?_); rintro e w6 ⟨rfl, hB⟩; have HB1 := Aside0.mk (HB.out.trans (hB.mono HB.out.size)); clear HB; have HB := HB1; clear HB1; clear hB HL5 HM5) | (go_at_call 8; (refine (redactorlaw16_known.calls true _ known_true).mono ?_); rintro e w7 ⟨rfl, hB⟩; have HB1 := Aside0.mk (HB.out.trans (hB.mono HB.out.size)); clear HB; have HB := HB1; clear HB1; clear hB))
    go_ret
    exact ⟨rfl, HB.out⟩
theorem twice_row (a0 : Option Addr) (len0 cap0 : Nat) (z0 : List Int) (w : World) (w0 : (a0 = none ∧ len0 = 0 ∧ cap0 = 0 ∧ z0 = []) ∨ ∃ x, a0 = some x ∧ len0 ≤ cap0 ∧ cap0 ≤ maxLen ∧ z0.length = cap0 ∧ (∀ i, i < z0.length → w.cell? (x.add i) = some (.int .u8 (z0.getD i 0))) ∧ ∀ n ∈ z0, (Lit.int .u8 n).wf = true) :
    Calls Try.prog 5 #[.slice a0 len0 cap0] w fun e w' => e = .returned (.bool true) ∧ Below w.heap.size w w' := by
  obtain ⟨l0, rfl, hr0, hm0, hw0, hc0⟩ := ReadsInt.ofRowC w0
  have hlen : (cmdsL l0 (min l0.length 30)).length ≤ 30 := by rw [cmdsL_length]; omega
  have hC : ∀ W, Below w.heap.size w W → Calls Try.prog 9 #[.slice a0 l0.length cap0] W fun e w' => ∃ v : Value, e = .returned v ∧ Kd.N k32 32 w' W.heap.size (fun _ => True) v (cmdsL l0 (min l0.length 30)) ∧ Below W.heap.size W w' := fun W hW =>
    cmds_all a0 cap0 l0 W (Kd.C_of_reads (d := (0 : Int)) (h1 := fun _ => rfl) (hr0.below hW)) (fun n hn => u8_of_wf (hw0 n hn))
  rcases resolve_twice (cmdsL l0 (min l0.length 30)) with ⟨e0, p0, hne, hres⟩ | ⟨J, hres, hres2⟩
  · exact twice_calls a0 l0.length cap0 w _ [] e0 p0 hC (by omega) (plain_cmds _ _) (f_of hres (by omega) cmdsL_sizes) (f_of (l := []) resolveP_nil (by decide) (fun x hx => by cases hx)) (by decide) (fun x hx => by cases hx)
  · exact twice_calls a0 l0.length cap0 w _ (mkL _ J) 0 0 hC (by omega) (plain_cmds _ _) (f_of hres (by omega) cmdsL_sizes) (f_of hres2 (by rw [mkL_length]; omega) (sizes_mk J cmdsL_sizes)) (by rw [mkL_length]; omega) (plain_mk J (plain_cmds _ _))
end Go.Proofs.Ytgennlcbmepchaa.PAll
