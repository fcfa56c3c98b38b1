/- Written for this seat by a program of this session (wip/tools/pp.py): Lean functions with the same answers as the Go functions, and the proofs that they are. Lean checks it. -/
import Derived.Test.YtgfanljjldcdfaaPAllx0
import Derived.Test.YtgfanljjldcdfaaPAllx1
import Derived.Test.YtgfanljjldcdfaaPAllx2
import Derived.Test.YtgfanljjldcdfaaExtSplit
import Derived.Test.YtgfanljjldcdfaaExtCount
import Derived.Test.YtgfanljjldcdfaaExtNumber
namespace Go.Proofs.Ytgfanljjldcdfaa.PAll
open Go.RowKit Go.Proofs.YtgfanljjldcdfaaW.PrintWords Go.Proofs.YtgfanljjldcdfaaW.PrintLast Go.Proofs.YtgfanljjldcdfaaW.PrintMore
attribute [local go_sem] max2_int min2_int max_two min_two max_three min_three max_four min_four   -- for this text's walks alone
set_option linter.unusedVariables false
set_option linter.unusedSimpArgs false

/-! ### redactorlaw05_LinesBack: function 6 -/
mutual
def redactorlaw05_LinesBack.l0 : Nat → List Int → List (S32) → Int → Option (Bool)
  | 0, _, _, _ => none
  | k + 1, x3, x4, x5 => if x5 < (x4.length : Int) then (redactorlaw05_LinesBack.l1 k x3 x4 x5 0) else ((redactorlaw05_known.f k).bind fun t282 => (if t282 = true then ((lines_Join.f k x4).bind fun t283 => ((redactorref01_Same.f k t283 x3).bind fun t286 => (if t286 = true then ((lines_Count.f x3).bind fun t287 => (some (t287 == (x4.length : Int)))) else (some false)))) else (some false)))
def redactorlaw05_LinesBack.l1 : Nat → List Int → List (S32) → Int → Int → Option (Bool)
  | 0, _, _, _, _ => none
  | k + 1, x3, x4, x5, x6 => if 0 ≤ x5 then (if x5 < (x4.length : Int) then (if x6 < (((rd_T32 x4 x5).f0).length : Int) then (if 0 ≤ x6 then (if (rd ((rd_T32 x4 x5).f0) x6) = 10 then (some false) else (redactorlaw05_LinesBack.l1 k x3 x4 x5 (wrap64 (x6 + 1)))) else (none)) else (if (wrap64 (x5 + 1)) < (x4.length : Int) then (if ((rd_T32 x4 x5).f1 = true) then (redactorlaw05_LinesBack.l0 k x3 x4 (wrap64 (x5 + 1))) else (some false)) else (if ((rd_T32 x4 x5).f1 = true) then (redactorlaw05_LinesBack.l0 k x3 x4 (wrap64 (x5 + 1))) else (if (((rd_T32 x4 x5).f0).length : Int) = 0 then (some false) else (redactorlaw05_LinesBack.l0 k x3 x4 (wrap64 (x5 + 1))))))) else (none)) else (none)
end
def redactorlaw05_LinesBack.f (k : Nat) (l0 : List Int) : Option (Bool) := (redactorlaw01_Cells.f k l0).bind fun t269 => ((lines_Split.f t269).bind fun t272 => (redactorlaw05_LinesBack.l0 k t269 t272 0))
theorem redactorlaw05_LinesBack.mono_l : ∀ k, (∀ y0 y1 y2, LeO (redactorlaw05_LinesBack.l0 k y0 y1 y2) (redactorlaw05_LinesBack.l0 (k + 1) y0 y1 y2)) ∧ (∀ y0 y1 y2 y3, LeO (redactorlaw05_LinesBack.l1 k y0 y1 y2 y3) (redactorlaw05_LinesBack.l1 (k + 1) y0 y1 y2 y3))
  | 0 => ⟨fun _ _ _ r h => by simp [redactorlaw05_LinesBack.l0] at h, fun _ _ _ _ r h => by simp [redactorlaw05_LinesBack.l1] at h⟩
  | k + 1 => by
    obtain ⟨ih0, ih1⟩ := redactorlaw05_LinesBack.mono_l k
    refine ⟨?_, ?_⟩
    · intro y0 y1 y2
      unfold redactorlaw05_LinesBack.l0
      repeat' first
      | (with_reducible exact ih0 _ _ _)
      | (with_reducible exact ih1 _ _ _ _)
      | (with_reducible exact lines_Join.mono _ _)
      | (with_reducible exact redactorlaw01_Cells.mono _ _)
      | (with_reducible exact redactorlaw05_known.mono _)
      | (with_reducible exact redactorref01_Same.mono _ _ _)
      | (with_reducible exact LeO.refl _)
      | (with_reducible exact LeO.none _)
      | (with_reducible refine LeO.ite ?_ ?_)
      | (with_reducible refine LeO.bind ?_ (fun _ => ?_))
      | exact ih0 _ _ _
      | exact ih1 _ _ _ _
      | exact lines_Join.mono _ _
      | exact redactorlaw01_Cells.mono _ _
      | exact redactorlaw05_known.mono _
      | exact redactorref01_Same.mono _ _ _
      | exact LeO.none _
      | refine LeO.ite ?_ ?_
      | refine LeO.bind ?_ (fun _ => ?_)
    · intro y0 y1 y2 y3
      unfold redactorlaw05_LinesBack.l1
      repeat' first
      | (with_reducible exact ih0 _ _ _)
      | (with_reducible exact ih1 _ _ _ _)
      | (with_reducible exact lines_Join.mono _ _)
      | (with_reducible exact redactorlaw01_Cells.mono _ _)
      | (with_reducible exact redactorlaw05_known.mono _)
      | (with_reducible exact redactorref01_Same.mono _ _ _)
      | (with_reducible exact LeO.refl _)
      | (with_reducible exact LeO.none _)
      | (with_reducible refine LeO.ite ?_ ?_)
      | (with_reducible refine LeO.bind ?_ (fun _ => ?_))
      | exact ih0 _ _ _
      | exact ih1 _ _ _ _
      | exact lines_Join.mono _ _
      | exact redactorlaw01_Cells.mono _ _
      | exact redactorlaw05_known.mono _
      | exact redactorref01_Same.mono _ _ _
      | exact LeO.none _
      | refine LeO.ite ?_ ?_
      | refine LeO.bind ?_ (fun _ => ?_)
theorem redactorlaw05_LinesBack.mono : ∀ a0 k, LeO (redactorlaw05_LinesBack.f k a0) (redactorlaw05_LinesBack.f (k + 1) a0) := by
  intro a0 k
  obtain ⟨ih0, ih1⟩ := redactorlaw05_LinesBack.mono_l k
  unfold redactorlaw05_LinesBack.f
  repeat' first
      | (with_reducible exact ih0 _ _ _)
      | (with_reducible exact ih1 _ _ _ _)
      | (with_reducible exact lines_Join.mono _ _)
      | (with_reducible exact redactorlaw01_Cells.mono _ _)
      | (with_reducible exact redactorlaw05_known.mono _)
      | (with_reducible exact redactorref01_Same.mono _ _ _)
      | (with_reducible exact LeO.refl _)
      | (with_reducible exact LeO.none _)
      | (with_reducible refine LeO.ite ?_ ?_)
      | (with_reducible refine LeO.bind ?_ (fun _ => ?_))
      | exact ih0 _ _ _
      | exact ih1 _ _ _ _
      | exact lines_Join.mono _ _
      | exact redactorlaw01_Cells.mono _ _
      | exact redactorlaw05_known.mono _
      | exact redactorref01_Same.mono _ _ _
      | exact LeO.none _
      | refine LeO.ite ?_ ?_
      | refine LeO.bind ?_ (fun _ => ?_)
set_option maxHeartbeats 8000000 in
set_option maxRecDepth 100000 in
theorem redactorlaw05_LinesBack.calls (k : Nat) (A0 : Option Addr) (c0 : Nat) (l0 : List Int) (r : Bool) (w : World) (hr0 : Kd.C (Kd.int .u8) w A0 l0.length l0) (hc0 : l0.length ≤ c0) (h : redactorlaw05_LinesBack.f k l0 = some r) :
    Calls Try.prog 6 #[.slice A0 l0.length c0] w fun e w' => e = .returned (.bool r) ∧ Below w.heap.size w w' := by
  have HR0 := Aside0.mk hr0
  have HC0 := Aside0.mk hc0
  clear hr0 hc0
  have HB := Aside0.mk (Below.refl w.heap.size w)
  have H : ((redactorlaw01_Cells.f k l0).bind fun t269 => ((lines_Split.f t269).bind fun t272 => (redactorlaw05_LinesBack.l0 k t269 t272 0))) = some r := h
  clear h
  replace H := Option.bind_eq_some_iff.mp H
  obtain ⟨t269, A20, H⟩ := H
  replace H : ((lines_Split.f t269).bind fun t272 => (redactorlaw05_LinesBack.l0 k t269 t272 0)) = some r := H
  have A2 := Aside0.mk A20
  clear A20
  replace H := Option.bind_eq_some_iff.mp H
  obtain ⟨t272, A30, H⟩ := H
  replace H : (redactorlaw05_LinesBack.l0 k t269 t272 0) = some r := H
  have A3 := Aside0.mk A30
  clear A30
  have H' := Aside0.mk H
  clear H
  go_enter Try.func6, Try.ntmps6
  go_wp2_with (first | ((with_reducible refine gate_callee (f := 8) rfl ?_); refine goesL_ (some 8) rfl rfl Try.func8 (by kernel_rfl) rfl #[.slice A0 l0.length c0] rfl (by (try simp only [List.map_toArray, List.map_cons, List.map_nil]); first | done | rfl | (simp only [List.length_drop, List.length_take]; rfl)) ?_; (with_reducible refine (redactorlaw01_Cells.calls k _ _ l0 t269 _ ?side1 ?side2 A2.out).mono ?_); (case side1 => repeat (first | exact HR0.out | (with_reducible refine Kd.C_alloc ?_ _) | (with_reducible refine Kd.C_drewN ?_ _) | (with_reducible refine Kd.C_drew ?_))); (case side2 => exact HC0.out); rintro e w4 ⟨v270, rfl, ho0, hb⟩; refine ⟨_, rfl, ?_⟩; have n0_ := Aside0.mk (Kd.R_lower ho0 (below_size (by repeat (first | (with_reducible first | exact HB.out | apply below_alloc | apply pw_below_drewN | apply below_drew1) | exact HB.out)))); have n1_ := Aside0.mk (below_step (by repeat (first | (with_reducible first | exact HB.out | apply below_alloc | apply pw_below_drewN | apply below_drew1) | exact HB.out)) hb); clear HB; have HO271 := n0_; have HB := n1_; clear n0_ n1_; (try clear hb); (try clear hb2); (try clear hk); (try clear hi); (try clear ho0); obtain ⟨Ao5, co5, eo5⟩ := Kd.R_slice HO271.out; subst eo5) | ((with_reducible refine gate_callee (f := 11) rfl ?_); refine goesL_ (some 10) rfl rfl Try.func11 (by kernel_rfl) rfl #[.slice Ao5 t269.length co5] rfl (by (try simp only [List.map_toArray, List.map_cons, List.map_nil]); first | done | rfl | (simp only [List.length_drop, List.length_take]; rfl)) ?_; (with_reducible refine (lines_Split.calls _ _ t269 t272 _ ?side1 ?side2 A3.out).mono ?_); (case side1 => repeat (first | exact (Kd.R_reads' HO271.out).2.2 | (with_reducible refine Kd.C_alloc ?_ _) | (with_reducible refine Kd.C_drewN ?_ _) | (with_reducible refine Kd.C_drew ?_))); (case side2 => exact (Kd.R_reads' HO271.out).2.1); rintro e w6 ⟨v273, rfl, ho0, hb⟩; refine ⟨_, rfl, ?_⟩; have n0_ := Aside0.mk (Kd.R_below (by (with_reducible repeat (first | apply Kd.R_alloc | apply Kd.R_drewN | apply Kd.R_drew)); exact HO271.out) hb); have n1_ := Aside0.mk (Kd.N_lower (Kd.N_mono (ok' := fun k_ => some k_ ≠ (.slice Ao5 t269.length co5 : Value).ownBlock) (Kd.S_N (Kd.S_bound ho0)) (fun k_ hk_ => (Kd.fresh' (Kd.R_lt (by (with_reducible repeat (first | apply Kd.R_alloc | apply Kd.R_drewN | apply Kd.R_drew)); exact HO271.out)) k_ hk_.2.1))) (below_size (by repeat (first | (with_reducible first | exact HB.out | apply below_alloc | apply pw_below_drewN | apply below_drew1) | exact HB.out)))); have n2_ := Aside0.mk (below_step (by repeat (first | (with_reducible first | exact HB.out | apply below_alloc | apply pw_below_drewN | apply below_drew1) | exact HB.out)) hb); clear HO271; clear HB; have HO271 := n0_; have HO274 := n1_; have HB := n2_; clear n0_ n1_ n2_; (try clear hb); (try clear hb2); (try clear hk); (try clear hi); (try clear ho0)))
  go_loopg [5] k (fun kq v5 w' => ∃ (x5_1 : Int), v5 = .int .i64 x5_1 ∧ Aside0 (redactorlaw05_LinesBack.l0 kq t269 t272 x5_1 = some r) ∧ Aside0 (kq ≤ k) ∧ Aside0 (Kd.R (Kd.int .i32) 25 w' w.heap.size (fun _ => True) (.slice Ao5 t269.length co5) t269) ∧ Aside0 (Kd.N k32 32 w' w.heap.size (fun k_ => some k_ ≠ ((.slice Ao5 t269.length co5) : Value).ownBlock) v273 t272) ∧ Aside0 (Below w.heap.size w w'))
  case atStart => exact ⟨(0), (by first | rfl | (simp; done) | (simp [*]; done)), H', ⟨Nat.le_refl _⟩, ⟨by (with_reducible repeat (first | apply Kd.R_alloc | apply Kd.R_drewN | apply Kd.R_drew)); exact HO271.out⟩, ⟨by (with_reducible repeat (first | apply Kd.N_alloc | apply Kd.N_drewN | apply Kd.N_drew)); exact HO274.out⟩, ⟨by repeat (first | (with_reducible first | exact HB.out | apply below_alloc | apply pw_below_drewN | apply below_drew1) | exact HB.out)⟩⟩
  case round =>
    clear H'
    try clear c1
    try clear p2
    try clear c6
    obtain ⟨x5_1, rfl, HA, HK1, HO_3, HO_4, HB⟩ := hrel
    cases gk with
    | zero => exact absurd HA.out (by simp [redactorlaw05_LinesBack.l0])
    | succ k1 =>
      have H := HA.out
      clear HA
      simp only [redactorlaw05_LinesBack.l0] at H
      by_cases c7 : x5_1 < (t272.length : Int)
      · rw [if_pos c7] at H
        have c7b0 : decide (x5_1 < (t272.length : Int)) = true := decide_eq_true c7
        clear c7
        have H' := Aside0.mk H
        clear H
        obtain ⟨Ao8, co8, eo8⟩ := Kd.N_slice HO_4.out
        subst eo8
        go_wp2
        go_loopg [6] k1 (fun kq v6 w' => ∃ (x6_2 : Int), v6 = .int .i64 x6_2 ∧ Aside0 (redactorlaw05_LinesBack.l1 kq t269 t272 x5_1 x6_2 = some r) ∧ Aside0 (kq ≤ k1) ∧ Aside0 (Kd.R (Kd.int .i32) 25 w' w.heap.size (fun _ => True) (.slice Ao5 t269.length co5) t269) ∧ Aside0 (Kd.N k32 32 w' w.heap.size (fun k_ => some k_ ≠ ((.slice Ao5 t269.length co5) : Value).ownBlock) (.slice Ao8 t272.length co8) t272) ∧ Aside0 (Below w.heap.size w w'))
        case atStart => exact ⟨(0), (by first | rfl | (simp; done) | (simp [*]; done)), H', ⟨Nat.le_refl _⟩, ⟨by (with_reducible repeat (first | apply Kd.R_alloc | apply Kd.R_drewN | apply Kd.R_drew)); exact HO_3.out⟩, ⟨by (with_reducible repeat (first | apply Kd.N_alloc | apply Kd.N_drewN | apply Kd.N_drew)); exact HO_4.out⟩, ⟨by repeat (first | (with_reducible first | exact HB.out | apply below_alloc | apply pw_below_drewN | apply below_drew1) | exact HB.out)⟩⟩
        case round =>
          clear H'
          try clear c1
          try clear p2
          try clear c6
          try clear c7
          try clear c7b0
          try clear c8
          try clear p2
          obtain ⟨x6_2, rfl, HA, HK2, HO_3, HO_4, HB⟩ := hrel
          cases gk with
          | zero => exact absurd HA.out (by simp [redactorlaw05_LinesBack.l1])
          | succ k2 =>
            have H := HA.out
            clear HA
            simp only [redactorlaw05_LinesBack.l1] at H
            by_cases c9 : 0 ≤ x5_1
            · rw [if_pos c9] at H
              have c9b0 : decide (0 ≤ x5_1) = true := decide_eq_true c9
              clear c9
              by_cases c10 : x5_1 < (t272.length : Int)
              · rw [if_pos c10] at H
                have c10b0 : decide (x5_1 < (t272.length : Int)) = true := decide_eq_true c10
                clear c10
                by_cases c11 : x6_2 < (((rd_T32 t272 x5_1).f0).length : Int)
                · rw [if_pos c11] at H
                  have c11b0 : decide (x6_2 < (((rd_T32 t272 x5_1).f0).length : Int)) = true := decide_eq_true c11
                  clear c11
                  by_cases c12 : 0 ≤ x6_2
                  · rw [if_pos c12] at H
                    have c12b0 : decide (0 ≤ x6_2) = true := decide_eq_true c12
                    clear c12
                    by_cases c13 : (rd ((rd_T32 t272 x5_1).f0) x6_2) = 10
                    · rw [if_pos c13] at H
                      have c13b0 : ((rd ((rd_T32 t272 x5_1).f0) x6_2) == 10) = true := beq_iff_eq.mpr c13
                      have c13b1 : ((rd ((rd_T32 t272 x5_1).f0) x6_2) != 10) = false := bne_eq_false_iff_eq.mpr c13
                      clear c13
                      obtain rfl := Option.some.inj H
                      have p275 : 0 ≤ (x5_1 : Int) := of_decide_eq_true (by first | (with_reducible assumption) | assumption)
                      have q275 : x5_1 < (t272.length : Int) := of_decide_eq_true (by first | (with_reducible assumption) | assumption)
                      obtain ⟨ad275, A275_0, c275_0, e275, hx275_0, hx275_1, hl275_0, hi275_0⟩ := at_T32 (Kd.N_reads' HO_4.out).2.2 x5_1 p275 q275
                      cases e275
                      obtain ⟨ce275, hce275, hMe275, hcc275⟩ := Kd.N_get HO_4.out z32 x5_1 p275 (by first | exact q275 | exact of_decide_eq_true (by first | (with_reducible assumption) | assumption) | (have e_ := (Kd.N_reads' HO_4.out).1; omega))
                      obtain ⟨ua275_0, uc275_0, rfl, ul275_0, ge275_0⟩ := k32_openF hMe275
                      have hv275_0 := hcc275 0 _ rfl
                      rw [Nat.add_zero] at hv275_0
                      replace hv275_0 := Option.some.inj (hv275_0.symm.trans hx275_0)
                      injection hv275_0 with hva_ hvn_ hvc_
                      rw [hva_] at ge275_0
                      rw [hvc_] at ul275_0
                      have HL275_0 := Aside0.mk (show Kd.V (Kd.int .i32) 25 _ w.heap.size _ _ ((rd_T32 t272 x5_1).f0) from Kd.V_mk ul275_0 ge275_0)
                      clear hva_ hvn_ hvc_ ge275_0 ul275_0
                      clear hcc275 hce275
                      have HR275_0 := Aside0.mk hi275_0
                      have HC275_0 := Aside0.mk hl275_0
                      clear hi275_0 hl275_0
                      replace p275 := eq_true p275
                      replace q275 := eq_true q275
                      have p276 : 0 ≤ (x5_1 : Int) := of_decide_eq_true (by first | (with_reducible assumption) | assumption)
                      have q276 : x5_1 < (t272.length : Int) := of_decide_eq_true (by first | (with_reducible assumption) | assumption)
                      obtain ⟨ad276, A276_0, c276_0, e276, hx276_0, hx276_1, hl276_0, hi276_0⟩ := at_T32 (Kd.N_reads' HO_4.out).2.2 x5_1 p276 q276
                      obtain rfl : ad275 = ad276 := (by injection e276)
                      obtain ⟨ce276, hce276, hMe276, hcc276⟩ := Kd.N_get HO_4.out z32 x5_1 p276 (by first | exact q276 | exact of_decide_eq_true (by first | (with_reducible assumption) | assumption) | (have e_ := (Kd.N_reads' HO_4.out).1; omega))
                      obtain ⟨ua276_0, uc276_0, rfl, ul276_0, ge276_0⟩ := k32_openF hMe276
                      have hv276_0 := hcc276 0 _ rfl
                      rw [Nat.add_zero] at hv276_0
                      replace hv276_0 := Option.some.inj (hv276_0.symm.trans hx276_0)
                      injection hv276_0 with hva_ hvn_ hvc_
                      rw [hva_] at ge276_0
                      rw [hvc_] at ul276_0
                      have HL276_0 := Aside0.mk (show Kd.V (Kd.int .i32) 25 _ w.heap.size _ _ ((rd_T32 t272 x5_1).f0) from Kd.V_mk ul276_0 ge276_0)
                      clear hva_ hvn_ hvc_ ge276_0 ul276_0
                      clear hcc276 hce276
                      have HR276_0 := Aside0.mk hi276_0
                      have HC276_0 := Aside0.mk hl276_0
                      clear hi276_0 hl276_0
                      replace p276 := eq_true p276
                      replace q276 := eq_true q276
                      have ea_ := Option.some.inj (hx275_0.symm.trans hx276_0)
                      injection ea_ with ea_ en_ ec_
                      subst ea_
                      subst ec_
                      clear en_
                      have p277 : 0 ≤ (x6_2 : Int) := of_decide_eq_true (by first | (with_reducible assumption) | assumption)
                      have q277 : x6_2 < (((rd_T32 t272 x5_1).f0).length : Int) := of_decide_eq_true (by first | (with_reducible assumption) | assumption)
                      obtain ⟨ad277, e277, hx277_0⟩ := Kd.at_int (by repeat (first | (with_reducible exact HR276_0.out) | (with_reducible refine Kd.C_alloc ?_ _) | (with_reducible refine Kd.C_drewN ?_ _) | (with_reducible refine Kd.C_drew ?_) | exact HR276_0.out)) x6_2 p277 q277
                      cases e277
                      replace p277 := eq_true p277
                      replace q277 := eq_true q277
                      go_wp2
                      go_ret
                      exact ⟨by first | rfl | (simp [errW_none, errW_some] <;> rfl) | (simp [*, errW_none, errW_some] <;> rfl), by repeat (first | (with_reducible first | exact HB.out | apply below_alloc | apply pw_below_drewN | apply below_drew1) | exact HB.out)⟩
                    · rw [if_neg c13] at H
                      have c13b0 : ((rd ((rd_T32 t272 x5_1).f0) x6_2) == 10) = false := beq_eq_false_iff_ne.mpr c13
                      have c13b1 : ((rd ((rd_T32 t272 x5_1).f0) x6_2) != 10) = true := bne_iff_ne.mpr c13
                      have H' := Aside0.mk H
                      clear H
                      have p275 : 0 ≤ (x5_1 : Int) := of_decide_eq_true (by first | (with_reducible assumption) | assumption)
                      have q275 : x5_1 < (t272.length : Int) := of_decide_eq_true (by first | (with_reducible assumption) | assumption)
                      obtain ⟨ad275, A275_0, c275_0, e275, hx275_0, hx275_1, hl275_0, hi275_0⟩ := at_T32 (Kd.N_reads' HO_4.out).2.2 x5_1 p275 q275
                      cases e275
                      obtain ⟨ce275, hce275, hMe275, hcc275⟩ := Kd.N_get HO_4.out z32 x5_1 p275 (by first | exact q275 | exact of_decide_eq_true (by first | (with_reducible assumption) | assumption) | (have e_ := (Kd.N_reads' HO_4.out).1; omega))
                      obtain ⟨ua275_0, uc275_0, rfl, ul275_0, ge275_0⟩ := k32_openF hMe275
                      have hv275_0 := hcc275 0 _ rfl
                      rw [Nat.add_zero] at hv275_0
                      replace hv275_0 := Option.some.inj (hv275_0.symm.trans hx275_0)
                      injection hv275_0 with hva_ hvn_ hvc_
                      rw [hva_] at ge275_0
                      rw [hvc_] at ul275_0
                      have HL275_0 := Aside0.mk (show Kd.V (Kd.int .i32) 25 _ w.heap.size _ _ ((rd_T32 t272 x5_1).f0) from Kd.V_mk ul275_0 ge275_0)
                      clear hva_ hvn_ hvc_ ge275_0 ul275_0
                      clear hcc275 hce275
                      have HR275_0 := Aside0.mk hi275_0
                      have HC275_0 := Aside0.mk hl275_0
                      clear hi275_0 hl275_0
                      replace p275 := eq_true p275
                      replace q275 := eq_true q275
                      have p276 : 0 ≤ (x5_1 : Int) := of_decide_eq_true (by first | (with_reducible assumption) | assumption)
                      have q276 : x5_1 < (t272.length : Int) := of_decide_eq_true (by first | (with_reducible assumption) | assumption)
                      obtain ⟨ad276, A276_0, c276_0, e276, hx276_0, hx276_1, hl276_0, hi276_0⟩ := at_T32 (Kd.N_reads' HO_4.out).2.2 x5_1 p276 q276
                      obtain rfl : ad275 = ad276 := (by injection e276)
                      obtain ⟨ce276, hce276, hMe276, hcc276⟩ := Kd.N_get HO_4.out z32 x5_1 p276 (by first | exact q276 | exact of_decide_eq_true (by first | (with_reducible assumption) | assumption) | (have e_ := (Kd.N_reads' HO_4.out).1; omega))
                      obtain ⟨ua276_0, uc276_0, rfl, ul276_0, ge276_0⟩ := k32_openF hMe276
                      have hv276_0 := hcc276 0 _ rfl
                      rw [Nat.add_zero] at hv276_0
                      replace hv276_0 := Option.some.inj (hv276_0.symm.trans hx276_0)
                      injection hv276_0 with hva_ hvn_ hvc_
                      rw [hva_] at ge276_0
                      rw [hvc_] at ul276_0
                      have HL276_0 := Aside0.mk (show Kd.V (Kd.int .i32) 25 _ w.heap.size _ _ ((rd_T32 t272 x5_1).f0) from Kd.V_mk ul276_0 ge276_0)
                      clear hva_ hvn_ hvc_ ge276_0 ul276_0
                      clear hcc276 hce276
                      have HR276_0 := Aside0.mk hi276_0
                      have HC276_0 := Aside0.mk hl276_0
                      clear hi276_0 hl276_0
                      replace p276 := eq_true p276
                      replace q276 := eq_true q276
                      have ea_ := Option.some.inj (hx275_0.symm.trans hx276_0)
                      injection ea_ with ea_ en_ ec_
                      subst ea_
                      subst ec_
                      clear en_
                      have p277 : 0 ≤ (x6_2 : Int) := of_decide_eq_true (by first | (with_reducible assumption) | assumption)
                      have q277 : x6_2 < (((rd_T32 t272 x5_1).f0).length : Int) := of_decide_eq_true (by first | (with_reducible assumption) | assumption)
                      obtain ⟨ad277, e277, hx277_0⟩ := Kd.at_int (by repeat (first | (with_reducible exact HR276_0.out) | (with_reducible refine Kd.C_alloc ?_ _) | (with_reducible refine Kd.C_drewN ?_ _) | (with_reducible refine Kd.C_drew ?_) | exact HR276_0.out)) x6_2 p277 q277
                      cases e277
                      replace p277 := eq_true p277
                      replace q277 := eq_true q277
                      go_wp2
                      go_roundg k2
                      case measure => have := HK1.out; have := HK2.out; omega
                      case rel => exact ⟨(wrap64 (x6_2 + 1)), (by first | rfl | (simp; done) | (simp [*]; done)), H', ⟨by have := HK1.out; have := HK2.out; omega⟩, ⟨by (with_reducible repeat (first | apply Kd.R_alloc | apply Kd.R_drewN | apply Kd.R_drew)); exact HO_3.out⟩, ⟨by (with_reducible repeat (first | apply Kd.N_alloc | apply Kd.N_drewN | apply Kd.N_drew)); exact HO_4.out⟩, ⟨by repeat (first | (with_reducible first | exact HB.out | apply below_alloc | apply pw_below_drewN | apply below_drew1) | exact HB.out)⟩⟩
                  · rw [if_neg c12] at H
                    exact absurd H (by simp)
                · rw [if_neg c11] at H
                  have c11b0 : decide (x6_2 < (((rd_T32 t272 x5_1).f0).length : Int)) = false := decide_eq_false c11
                  clear c11
                  by_cases c14 : (wrap64 (x5_1 + 1)) < (t272.length : Int)
                  · rw [if_pos c14] at H
                    have c14b0 : decide ((wrap64 (x5_1 + 1)) < (t272.length : Int)) = true := decide_eq_true c14
                    clear c14
                    obtain ⟨bq15, hbq15⟩ : ∃ b_ : Bool, b_ = ((rd_T32 t272 x5_1).f1) := ⟨_, rfl⟩
                    replace H : (if (bq15 = true) then (redactorlaw05_LinesBack.l0 k2 t269 t272 (wrap64 (x5_1 + 1))) else (some false)) = some r := by rw [← hbq15] at H; exact H
                    have Nbq15 := Aside0.mk hbq15
                    clear hbq15
                    by_cases c16 : (bq15 = true)
                    · subst c16
                      have H1 : (redactorlaw05_LinesBack.l0 k2 t269 t272 (wrap64 (x5_1 + 1))) = some r := by rw [if_pos rfl] at H; exact H
                      clear H
                      have H := H1
                      clear H1
                      have H' := Aside0.mk H
                      clear H
                      have p275 : 0 ≤ (x5_1 : Int) := of_decide_eq_true (by first | (with_reducible assumption) | assumption)
                      have q275 : x5_1 < (t272.length : Int) := of_decide_eq_true (by first | (with_reducible assumption) | assumption)
                      obtain ⟨ad275, A275_0, c275_0, e275, hx275_0, hx275_1, hl275_0, hi275_0⟩ := at_T32 (Kd.N_reads' HO_4.out).2.2 x5_1 p275 q275
                      (try rw [← Nbq15.out] at hx275_1)
                      cases e275
                      obtain ⟨ce275, hce275, hMe275, hcc275⟩ := Kd.N_get HO_4.out z32 x5_1 p275 (by first | exact q275 | exact of_decide_eq_true (by first | (with_reducible assumption) | assumption) | (have e_ := (Kd.N_reads' HO_4.out).1; omega))
                      obtain ⟨ua275_0, uc275_0, rfl, ul275_0, ge275_0⟩ := k32_openF hMe275
                      have hv275_0 := hcc275 0 _ rfl
                      rw [Nat.add_zero] at hv275_0
                      replace hv275_0 := Option.some.inj (hv275_0.symm.trans hx275_0)
                      injection hv275_0 with hva_ hvn_ hvc_
                      rw [hva_] at ge275_0
                      rw [hvc_] at ul275_0
                      have HL275_0 := Aside0.mk (show Kd.V (Kd.int .i32) 25 _ w.heap.size _ _ ((rd_T32 t272 x5_1).f0) from Kd.V_mk ul275_0 ge275_0)
                      clear hva_ hvn_ hvc_ ge275_0 ul275_0
                      clear hcc275 hce275
                      have HR275_0 := Aside0.mk hi275_0
                      have HC275_0 := Aside0.mk hl275_0
                      clear hi275_0 hl275_0
                      replace p275 := eq_true p275
                      replace q275 := eq_true q275
                      have p278 : 0 ≤ (x5_1 : Int) := of_decide_eq_true (by first | (with_reducible assumption) | assumption)
                      have q278 : x5_1 < (t272.length : Int) := of_decide_eq_true (by first | (with_reducible assumption) | assumption)
                      obtain ⟨ad278, A278_0, c278_0, e278, hx278_0, hx278_1, hl278_0, hi278_0⟩ := at_T32 (Kd.N_reads' HO_4.out).2.2 x5_1 p278 q278
                      (try rw [← Nbq15.out] at hx278_1)
                      obtain rfl : ad275 = ad278 := (by injection e278)
                      obtain ⟨ce278, hce278, hMe278, hcc278⟩ := Kd.N_get HO_4.out z32 x5_1 p278 (by first | exact q278 | exact of_decide_eq_true (by first | (with_reducible assumption) | assumption) | (have e_ := (Kd.N_reads' HO_4.out).1; omega))
                      obtain ⟨ua278_0, uc278_0, rfl, ul278_0, ge278_0⟩ := k32_openF hMe278
                      have hv278_0 := hcc278 0 _ rfl
                      rw [Nat.add_zero] at hv278_0
                      replace hv278_0 := Option.some.inj (hv278_0.symm.trans hx278_0)
                      injection hv278_0 with hva_ hvn_ hvc_
                      rw [hva_] at ge278_0
                      rw [hvc_] at ul278_0
                      have HL278_0 := Aside0.mk (show Kd.V (Kd.int .i32) 25 _ w.heap.size _ _ ((rd_T32 t272 x5_1).f0) from Kd.V_mk ul278_0 ge278_0)
                      clear hva_ hvn_ hvc_ ge278_0 ul278_0
                      clear hcc278 hce278
                      have HR278_0 := Aside0.mk hi278_0
                      have HC278_0 := Aside0.mk hl278_0
                      clear hi278_0 hl278_0
                      replace p278 := eq_true p278
                      replace q278 := eq_true q278
                      have ea_ := Option.some.inj (hx275_0.symm.trans hx278_0)
                      injection ea_ with ea_ en_ ec_
                      subst ea_
                      subst ec_
                      clear en_
                      have p279 : 0 ≤ (x5_1 : Int) := of_decide_eq_true (by first | (with_reducible assumption) | assumption)
                      have q279 : x5_1 < (t272.length : Int) := of_decide_eq_true (by first | (with_reducible assumption) | assumption)
                      obtain ⟨ad279, A279_0, c279_0, e279, hx279_0, hx279_1, hl279_0, hi279_0⟩ := at_T32 (Kd.N_reads' HO_4.out).2.2 x5_1 p279 q279
                      (try rw [← Nbq15.out] at hx279_1)
                      obtain rfl : ad275 = ad279 := (by injection e279)
                      obtain ⟨ce279, hce279, hMe279, hcc279⟩ := Kd.N_get HO_4.out z32 x5_1 p279 (by first | exact q279 | exact of_decide_eq_true (by first | (with_reducible assumption) | assumption) | (have e_ := (Kd.N_reads' HO_4.out).1; omega))
                      obtain ⟨ua279_0, uc279_0, rfl, ul279_0, ge279_0⟩ := k32_openF hMe279
                      have hv279_0 := hcc279 0 _ rfl
                      rw [Nat.add_zero] at hv279_0
                      replace hv279_0 := Option.some.inj (hv279_0.symm.trans hx279_0)
                      injection hv279_0 with hva_ hvn_ hvc_
                      rw [hva_] at ge279_0
                      rw [hvc_] at ul279_0
                      have HL279_0 := Aside0.mk (show Kd.V (Kd.int .i32) 25 _ w.heap.size _ _ ((rd_T32 t272 x5_1).f0) from Kd.V_mk ul279_0 ge279_0)
                      clear hva_ hvn_ hvc_ ge279_0 ul279_0
                      clear hcc279 hce279
                      have HR279_0 := Aside0.mk hi279_0
                      have HC279_0 := Aside0.mk hl279_0
                      clear hi279_0 hl279_0
                      replace p279 := eq_true p279
                      replace q279 := eq_true q279
                      have ea_ := Option.some.inj (hx275_0.symm.trans hx279_0)
                      injection ea_ with ea_ en_ ec_
                      subst ea_
                      subst ec_
                      clear en_
                      go_wp2
                      go_roundg k2
                      case measure => have := HK1.out; have := HK2.out; omega
                      case rel => exact ⟨(wrap64 (x5_1 + 1)), (by first | rfl | (simp; done) | (simp [*]; done)), H', ⟨by have := HK1.out; have := HK2.out; omega⟩, ⟨by (with_reducible repeat (first | apply Kd.R_alloc | apply Kd.R_drewN | apply Kd.R_drew)); exact HO_3.out⟩, ⟨by (with_reducible repeat (first | apply Kd.N_alloc | apply Kd.N_drewN | apply Kd.N_drew)); exact HO_4.out⟩, ⟨by repeat (first | (with_reducible first | exact HB.out | apply below_alloc | apply pw_below_drewN | apply below_drew1) | exact HB.out)⟩⟩
                    · replace c16 := Bool.eq_false_iff.mpr c16
                      subst c16
                      have H1 : (some false) = some r := by rw [if_neg (show ¬ (false = true) by decide)] at H; exact H
                      clear H
                      have H := H1
                      clear H1
                      obtain rfl := Option.some.inj H
                      have p275 : 0 ≤ (x5_1 : Int) := of_decide_eq_true (by first | (with_reducible assumption) | assumption)
                      have q275 : x5_1 < (t272.length : Int) := of_decide_eq_true (by first | (with_reducible assumption) | assumption)
                      obtain ⟨ad275, A275_0, c275_0, e275, hx275_0, hx275_1, hl275_0, hi275_0⟩ := at_T32 (Kd.N_reads' HO_4.out).2.2 x5_1 p275 q275
                      (try rw [← Nbq15.out] at hx275_1)
                      cases e275
                      obtain ⟨ce275, hce275, hMe275, hcc275⟩ := Kd.N_get HO_4.out z32 x5_1 p275 (by first | exact q275 | exact of_decide_eq_true (by first | (with_reducible assumption) | assumption) | (have e_ := (Kd.N_reads' HO_4.out).1; omega))
                      obtain ⟨ua275_0, uc275_0, rfl, ul275_0, ge275_0⟩ := k32_openF hMe275
                      have hv275_0 := hcc275 0 _ rfl
                      rw [Nat.add_zero] at hv275_0
                      replace hv275_0 := Option.some.inj (hv275_0.symm.trans hx275_0)
                      injection hv275_0 with hva_ hvn_ hvc_
                      rw [hva_] at ge275_0
                      rw [hvc_] at ul275_0
                      have HL275_0 := Aside0.mk (show Kd.V (Kd.int .i32) 25 _ w.heap.size _ _ ((rd_T32 t272 x5_1).f0) from Kd.V_mk ul275_0 ge275_0)
                      clear hva_ hvn_ hvc_ ge275_0 ul275_0
                      clear hcc275 hce275
                      have HR275_0 := Aside0.mk hi275_0
                      have HC275_0 := Aside0.mk hl275_0
                      clear hi275_0 hl275_0
                      replace p275 := eq_true p275
                      replace q275 := eq_true q275
                      have p278 : 0 ≤ (x5_1 : Int) := of_decide_eq_true (by first | (with_reducible assumption) | assumption)
                      have q278 : x5_1 < (t272.length : Int) := of_decide_eq_true (by first | (with_reducible assumption) | assumption)
                      obtain ⟨ad278, A278_0, c278_0, e278, hx278_0, hx278_1, hl278_0, hi278_0⟩ := at_T32 (Kd.N_reads' HO_4.out).2.2 x5_1 p278 q278
                      (try rw [← Nbq15.out] at hx278_1)
                      obtain rfl : ad275 = ad278 := (by injection e278)
                      obtain ⟨ce278, hce278, hMe278, hcc278⟩ := Kd.N_get HO_4.out z32 x5_1 p278 (by first | exact q278 | exact of_decide_eq_true (by first | (with_reducible assumption) | assumption) | (have e_ := (Kd.N_reads' HO_4.out).1; omega))
                      obtain ⟨ua278_0, uc278_0, rfl, ul278_0, ge278_0⟩ := k32_openF hMe278
                      have hv278_0 := hcc278 0 _ rfl
                      rw [Nat.add_zero] at hv278_0
                      replace hv278_0 := Option.some.inj (hv278_0.symm.trans hx278_0)
                      injection hv278_0 with hva_ hvn_ hvc_
                      rw [hva_] at ge278_0
                      rw [hvc_] at ul278_0
                      have HL278_0 := Aside0.mk (show Kd.V (Kd.int .i32) 25 _ w.heap.size _ _ ((rd_T32 t272 x5_1).f0) from Kd.V_mk ul278_0 ge278_0)
                      clear hva_ hvn_ hvc_ ge278_0 ul278_0
                      clear hcc278 hce278
                      have HR278_0 := Aside0.mk hi278_0
                      have HC278_0 := Aside0.mk hl278_0
                      clear hi278_0 hl278_0
                      replace p278 := eq_true p278
                      replace q278 := eq_true q278
                      have ea_ := Option.some.inj (hx275_0.symm.trans hx278_0)
                      injection ea_ with ea_ en_ ec_
                      subst ea_
                      subst ec_
                      clear en_
                      go_wp2
                      go_ret
                      exact ⟨by first | rfl | (simp [errW_none, errW_some] <;> rfl) | (simp [*, errW_none, errW_some] <;> rfl), by repeat (first | (with_reducible first | exact HB.out | apply below_alloc | apply pw_below_drewN | apply below_drew1) | exact HB.out)⟩
                  · rw [if_neg c14] at H
                    have c14b0 : decide ((wrap64 (x5_1 + 1)) < (t272.length : Int)) = false := decide_eq_false c14
                    clear c14
                    obtain ⟨bq17, hbq17⟩ : ∃ b_ : Bool, b_ = ((rd_T32 t272 x5_1).f1) := ⟨_, rfl⟩
                    replace H : (if (bq17 = true) then (redactorlaw05_LinesBack.l0 k2 t269 t272 (wrap64 (x5_1 + 1))) else (if (((rd_T32 t272 x5_1).f0).length : Int) = 0 then (some false) else (redactorlaw05_LinesBack.l0 k2 t269 t272 (wrap64 (x5_1 + 1))))) = some r := by rw [← hbq17] at H; exact H
                    have Nbq17 := Aside0.mk hbq17
                    clear hbq17
                    by_cases c18 : (bq17 = true)
                    · subst c18
                      have H1 : (redactorlaw05_LinesBack.l0 k2 t269 t272 (wrap64 (x5_1 + 1))) = some r := by rw [if_pos rfl] at H; exact H
                      clear H
                      have H := H1
                      clear H1
                      have H' := Aside0.mk H
                      clear H
                      have p275 : 0 ≤ (x5_1 : Int) := of_decide_eq_true (by first | (with_reducible assumption) | assumption)
                      have q275 : x5_1 < (t272.length : Int) := of_decide_eq_true (by first | (with_reducible assumption) | assumption)
                      obtain ⟨ad275, A275_0, c275_0, e275, hx275_0, hx275_1, hl275_0, hi275_0⟩ := at_T32 (Kd.N_reads' HO_4.out).2.2 x5_1 p275 q275
                      (try rw [← Nbq17.out] at hx275_1)
                      cases e275
                      obtain ⟨ce275, hce275, hMe275, hcc275⟩ := Kd.N_get HO_4.out z32 x5_1 p275 (by first | exact q275 | exact of_decide_eq_true (by first | (with_reducible assumption) | assumption) | (have e_ := (Kd.N_reads' HO_4.out).1; omega))
                      obtain ⟨ua275_0, uc275_0, rfl, ul275_0, ge275_0⟩ := k32_openF hMe275
                      have hv275_0 := hcc275 0 _ rfl
                      rw [Nat.add_zero] at hv275_0
                      replace hv275_0 := Option.some.inj (hv275_0.symm.trans hx275_0)
                      injection hv275_0 with hva_ hvn_ hvc_
                      rw [hva_] at ge275_0
                      rw [hvc_] at ul275_0
                      have HL275_0 := Aside0.mk (show Kd.V (Kd.int .i32) 25 _ w.heap.size _ _ ((rd_T32 t272 x5_1).f0) from Kd.V_mk ul275_0 ge275_0)
                      clear hva_ hvn_ hvc_ ge275_0 ul275_0
                      clear hcc275 hce275
                      have HR275_0 := Aside0.mk hi275_0
                      have HC275_0 := Aside0.mk hl275_0
                      clear hi275_0 hl275_0
                      replace p275 := eq_true p275
                      replace q275 := eq_true q275
                      have p280 : 0 ≤ (x5_1 : Int) := of_decide_eq_true (by first | (with_reducible assumption) | assumption)
                      have q280 : x5_1 < (t272.length : Int) := of_decide_eq_true (by first | (with_reducible assumption) | assumption)
                      obtain ⟨ad280, A280_0, c280_0, e280, hx280_0, hx280_1, hl280_0, hi280_0⟩ := at_T32 (Kd.N_reads' HO_4.out).2.2 x5_1 p280 q280
                      (try rw [← Nbq17.out] at hx280_1)
                      obtain rfl : ad275 = ad280 := (by injection e280)
                      obtain ⟨ce280, hce280, hMe280, hcc280⟩ := Kd.N_get HO_4.out z32 x5_1 p280 (by first | exact q280 | exact of_decide_eq_true (by first | (with_reducible assumption) | assumption) | (have e_ := (Kd.N_reads' HO_4.out).1; omega))
                      obtain ⟨ua280_0, uc280_0, rfl, ul280_0, ge280_0⟩ := k32_openF hMe280
                      have hv280_0 := hcc280 0 _ rfl
                      rw [Nat.add_zero] at hv280_0
                      replace hv280_0 := Option.some.inj (hv280_0.symm.trans hx280_0)
                      injection hv280_0 with hva_ hvn_ hvc_
                      rw [hva_] at ge280_0
                      rw [hvc_] at ul280_0
                      have HL280_0 := Aside0.mk (show Kd.V (Kd.int .i32) 25 _ w.heap.size _ _ ((rd_T32 t272 x5_1).f0) from Kd.V_mk ul280_0 ge280_0)
                      clear hva_ hvn_ hvc_ ge280_0 ul280_0
                      clear hcc280 hce280
                      have HR280_0 := Aside0.mk hi280_0
                      have HC280_0 := Aside0.mk hl280_0
                      clear hi280_0 hl280_0
                      replace p280 := eq_true p280
                      replace q280 := eq_true q280
                      have ea_ := Option.some.inj (hx275_0.symm.trans hx280_0)
                      injection ea_ with ea_ en_ ec_
                      subst ea_
                      subst ec_
                      clear en_
                      go_wp2
                      go_roundg k2
                      case measure => have := HK1.out; have := HK2.out; omega
                      case rel => exact ⟨(wrap64 (x5_1 + 1)), (by first | rfl | (simp; done) | (simp [*]; done)), H', ⟨by have := HK1.out; have := HK2.out; omega⟩, ⟨by (with_reducible repeat (first | apply Kd.R_alloc | apply Kd.R_drewN | apply Kd.R_drew)); exact HO_3.out⟩, ⟨by (with_reducible repeat (first | apply Kd.N_alloc | apply Kd.N_drewN | apply Kd.N_drew)); exact HO_4.out⟩, ⟨by repeat (first | (with_reducible first | exact HB.out | apply below_alloc | apply pw_below_drewN | apply below_drew1) | exact HB.out)⟩⟩
                    · replace c18 := Bool.eq_false_iff.mpr c18
                      subst c18
                      have H1 : (if (((rd_T32 t272 x5_1).f0).length : Int) = 0 then (some false) else (redactorlaw05_LinesBack.l0 k2 t269 t272 (wrap64 (x5_1 + 1)))) = some r := by rw [if_neg (show ¬ (false = true) by decide)] at H; exact H
                      clear H
                      have H := H1
                      clear H1
                      by_cases c19 : (((rd_T32 t272 x5_1).f0).length : Int) = 0
                      · rw [if_pos c19] at H
                        have c19b0 : ((((rd_T32 t272 x5_1).f0).length : Int) == 0) = true := beq_iff_eq.mpr c19
                        have c19b1 : ((((rd_T32 t272 x5_1).f0).length : Int) != 0) = false := bne_eq_false_iff_eq.mpr c19
                        clear c19
                        obtain rfl := Option.some.inj H
                        have p275 : 0 ≤ (x5_1 : Int) := of_decide_eq_true (by first | (with_reducible assumption) | assumption)
                        have q275 : x5_1 < (t272.length : Int) := of_decide_eq_true (by first | (with_reducible assumption) | assumption)
                        obtain ⟨ad275, A275_0, c275_0, e275, hx275_0, hx275_1, hl275_0, hi275_0⟩ := at_T32 (Kd.N_reads' HO_4.out).2.2 x5_1 p275 q275
                        (try rw [← Nbq17.out] at hx275_1)
                        cases e275
                        obtain ⟨ce275, hce275, hMe275, hcc275⟩ := Kd.N_get HO_4.out z32 x5_1 p275 (by first | exact q275 | exact of_decide_eq_true (by first | (with_reducible assumption) | assumption) | (have e_ := (Kd.N_reads' HO_4.out).1; omega))
                        obtain ⟨ua275_0, uc275_0, rfl, ul275_0, ge275_0⟩ := k32_openF hMe275
                        have hv275_0 := hcc275 0 _ rfl
                        rw [Nat.add_zero] at hv275_0
                        replace hv275_0 := Option.some.inj (hv275_0.symm.trans hx275_0)
                        injection hv275_0 with hva_ hvn_ hvc_
                        rw [hva_] at ge275_0
                        rw [hvc_] at ul275_0
                        have HL275_0 := Aside0.mk (show Kd.V (Kd.int .i32) 25 _ w.heap.size _ _ ((rd_T32 t272 x5_1).f0) from Kd.V_mk ul275_0 ge275_0)
                        clear hva_ hvn_ hvc_ ge275_0 ul275_0
                        clear hcc275 hce275
                        have HR275_0 := Aside0.mk hi275_0
                        have HC275_0 := Aside0.mk hl275_0
                        clear hi275_0 hl275_0
                        replace p275 := eq_true p275
                        replace q275 := eq_true q275
                        have p280 : 0 ≤ (x5_1 : Int) := of_decide_eq_true (by first | (with_reducible assumption) | assumption)
                        have q280 : x5_1 < (t272.length : Int) := of_decide_eq_true (by first | (with_reducible assumption) | assumption)
                        obtain ⟨ad280, A280_0, c280_0, e280, hx280_0, hx280_1, hl280_0, hi280_0⟩ := at_T32 (Kd.N_reads' HO_4.out).2.2 x5_1 p280 q280
                        (try rw [← Nbq17.out] at hx280_1)
                        obtain rfl : ad275 = ad280 := (by injection e280)
                        obtain ⟨ce280, hce280, hMe280, hcc280⟩ := Kd.N_get HO_4.out z32 x5_1 p280 (by first | exact q280 | exact of_decide_eq_true (by first | (with_reducible assumption) | assumption) | (have e_ := (Kd.N_reads' HO_4.out).1; omega))
                        obtain ⟨ua280_0, uc280_0, rfl, ul280_0, ge280_0⟩ := k32_openF hMe280
                        have hv280_0 := hcc280 0 _ rfl
                        rw [Nat.add_zero] at hv280_0
                        replace hv280_0 := Option.some.inj (hv280_0.symm.trans hx280_0)
                        injection hv280_0 with hva_ hvn_ hvc_
                        rw [hva_] at ge280_0
                        rw [hvc_] at ul280_0
                        have HL280_0 := Aside0.mk (show Kd.V (Kd.int .i32) 25 _ w.heap.size _ _ ((rd_T32 t272 x5_1).f0) from Kd.V_mk ul280_0 ge280_0)
                        clear hva_ hvn_ hvc_ ge280_0 ul280_0
                        clear hcc280 hce280
                        have HR280_0 := Aside0.mk hi280_0
                        have HC280_0 := Aside0.mk hl280_0
                        clear hi280_0 hl280_0
                        replace p280 := eq_true p280
                        replace q280 := eq_true q280
                        have ea_ := Option.some.inj (hx275_0.symm.trans hx280_0)
                        injection ea_ with ea_ en_ ec_
                        subst ea_
                        subst ec_
                        clear en_
                        have p281 : 0 ≤ (x5_1 : Int) := of_decide_eq_true (by first | (with_reducible assumption) | assumption)
                        have q281 : x5_1 < (t272.length : Int) := of_decide_eq_true (by first | (with_reducible assumption) | assumption)
                        obtain ⟨ad281, A281_0, c281_0, e281, hx281_0, hx281_1, hl281_0, hi281_0⟩ := at_T32 (Kd.N_reads' HO_4.out).2.2 x5_1 p281 q281
                        (try rw [← Nbq17.out] at hx281_1)
                        obtain rfl : ad275 = ad281 := (by injection e281)
                        obtain ⟨ce281, hce281, hMe281, hcc281⟩ := Kd.N_get HO_4.out z32 x5_1 p281 (by first | exact q281 | exact of_decide_eq_true (by first | (with_reducible assumption) | assumption) | (have e_ := (Kd.N_reads' HO_4.out).1; omega))
                        obtain ⟨ua281_0, uc281_0, rfl, ul281_0, ge281_0⟩ := k32_openF hMe281
                        have hv281_0 := hcc281 0 _ rfl
                        rw [Nat.add_zero] at hv281_0
                        replace hv281_0 := Option.some.inj (hv281_0.symm.trans hx281_0)
                        injection hv281_0 with hva_ hvn_ hvc_
                        rw [hva_] at ge281_0
                        rw [hvc_] at ul281_0
                        have HL281_0 := Aside0.mk (show Kd.V (Kd.int .i32) 25 _ w.heap.size _ _ ((rd_T32 t272 x5_1).f0) from Kd.V_mk ul281_0 ge281_0)
                        clear hva_ hvn_ hvc_ ge281_0 ul281_0
                        clear hcc281 hce281
                        have HR281_0 := Aside0.mk hi281_0
                        have HC281_0 := Aside0.mk hl281_0
                        clear hi281_0 hl281_0
                        replace p281 := eq_true p281
                        replace q281 := eq_true q281
                        have ea_ := Option.some.inj (hx275_0.symm.trans hx281_0)
                        injection ea_ with ea_ en_ ec_
                        subst ea_
                        subst ec_
                        clear en_
                        go_wp2
                        go_ret
                        exact ⟨by first | rfl | (simp [errW_none, errW_some] <;> rfl) | (simp [*, errW_none, errW_some] <;> rfl), by repeat (first | (with_reducible first | exact HB.out | apply below_alloc | apply pw_below_drewN | apply below_drew1) | exact HB.out)⟩
                      · rw [if_neg c19] at H
                        have c19b0 : ((((rd_T32 t272 x5_1).f0).length : Int) == 0) = false := beq_eq_false_iff_ne.mpr c19
                        have c19b1 : ((((rd_T32 t272 x5_1).f0).length : Int) != 0) = true := bne_iff_ne.mpr c19
                        have c19b2 : ¬ (((rd_T32 t272 x5_1).f0) = []) := fun h_ => c19 (by rw [h_]; rfl)
                        have H' := Aside0.mk H
                        clear H
                        have p275 : 0 ≤ (x5_1 : Int) := of_decide_eq_true (by first | (with_reducible assumption) | assumption)
                        have q275 : x5_1 < (t272.length : Int) := of_decide_eq_true (by first | (with_reducible assumption) | assumption)
                        obtain ⟨ad275, A275_0, c275_0, e275, hx275_0, hx275_1, hl275_0, hi275_0⟩ := at_T32 (Kd.N_reads' HO_4.out).2.2 x5_1 p275 q275
                        (try rw [← Nbq17.out] at hx275_1)
                        cases e275
                        obtain ⟨ce275, hce275, hMe275, hcc275⟩ := Kd.N_get HO_4.out z32 x5_1 p275 (by first | exact q275 | exact of_decide_eq_true (by first | (with_reducible assumption) | assumption) | (have e_ := (Kd.N_reads' HO_4.out).1; omega))
                        obtain ⟨ua275_0, uc275_0, rfl, ul275_0, ge275_0⟩ := k32_openF hMe275
                        have hv275_0 := hcc275 0 _ rfl
                        rw [Nat.add_zero] at hv275_0
                        replace hv275_0 := Option.some.inj (hv275_0.symm.trans hx275_0)
                        injection hv275_0 with hva_ hvn_ hvc_
                        rw [hva_] at ge275_0
                        rw [hvc_] at ul275_0
                        have HL275_0 := Aside0.mk (show Kd.V (Kd.int .i32) 25 _ w.heap.size _ _ ((rd_T32 t272 x5_1).f0) from Kd.V_mk ul275_0 ge275_0)
                        clear hva_ hvn_ hvc_ ge275_0 ul275_0
                        clear hcc275 hce275
                        have HR275_0 := Aside0.mk hi275_0
                        have HC275_0 := Aside0.mk hl275_0
                        clear hi275_0 hl275_0
                        replace p275 := eq_true p275
                        replace q275 := eq_true q275
                        have p280 : 0 ≤ (x5_1 : Int) := of_decide_eq_true (by first | (with_reducible assumption) | assumption)
                        have q280 : x5_1 < (t272.length : Int) := of_decide_eq_true (by first | (with_reducible assumption) | assumption)
                        obtain ⟨ad280, A280_0, c280_0, e280, hx280_0, hx280_1, hl280_0, hi280_0⟩ := at_T32 (Kd.N_reads' HO_4.out).2.2 x5_1 p280 q280
                        (try rw [← Nbq17.out] at hx280_1)
                        obtain rfl : ad275 = ad280 := (by injection e280)
                        obtain ⟨ce280, hce280, hMe280, hcc280⟩ := Kd.N_get HO_4.out z32 x5_1 p280 (by first | exact q280 | exact of_decide_eq_true (by first | (with_reducible assumption) | assumption) | (have e_ := (Kd.N_reads' HO_4.out).1; omega))
                        obtain ⟨ua280_0, uc280_0, rfl, ul280_0, ge280_0⟩ := k32_openF hMe280
                        have hv280_0 := hcc280 0 _ rfl
                        rw [Nat.add_zero] at hv280_0
                        replace hv280_0 := Option.some.inj (hv280_0.symm.trans hx280_0)
                        injection hv280_0 with hva_ hvn_ hvc_
                        rw [hva_] at ge280_0
                        rw [hvc_] at ul280_0
                        have HL280_0 := Aside0.mk (show Kd.V (Kd.int .i32) 25 _ w.heap.size _ _ ((rd_T32 t272 x5_1).f0) from Kd.V_mk ul280_0 ge280_0)
                        clear hva_ hvn_ hvc_ ge280_0 ul280_0
                        clear hcc280 hce280
                        have HR280_0 := Aside0.mk hi280_0
                        have HC280_0 := Aside0.mk hl280_0
                        clear hi280_0 hl280_0
                        replace p280 := eq_true p280
                        replace q280 := eq_true q280
                        have ea_ := Option.some.inj (hx275_0.symm.trans hx280_0)
                        injection ea_ with ea_ en_ ec_
                        subst ea_
                        subst ec_
                        clear en_
                        have p281 : 0 ≤ (x5_1 : Int) := of_decide_eq_true (by first | (with_reducible assumption) | assumption)
                        have q281 : x5_1 < (t272.length : Int) := of_decide_eq_true (by first | (with_reducible assumption) | assumption)
                        obtain ⟨ad281, A281_0, c281_0, e281, hx281_0, hx281_1, hl281_0, hi281_0⟩ := at_T32 (Kd.N_reads' HO_4.out).2.2 x5_1 p281 q281
                        (try rw [← Nbq17.out] at hx281_1)
                        obtain rfl : ad275 = ad281 := (by injection e281)
                        obtain ⟨ce281, hce281, hMe281, hcc281⟩ := Kd.N_get HO_4.out z32 x5_1 p281 (by first | exact q281 | exact of_decide_eq_true (by first | (with_reducible assumption) | assumption) | (have e_ := (Kd.N_reads' HO_4.out).1; omega))
                        obtain ⟨ua281_0, uc281_0, rfl, ul281_0, ge281_0⟩ := k32_openF hMe281
                        have hv281_0 := hcc281 0 _ rfl
                        rw [Nat.add_zero] at hv281_0
                        replace hv281_0 := Option.some.inj (hv281_0.symm.trans hx281_0)
                        injection hv281_0 with hva_ hvn_ hvc_
                        rw [hva_] at ge281_0
                        rw [hvc_] at ul281_0
                        have HL281_0 := Aside0.mk (show Kd.V (Kd.int .i32) 25 _ w.heap.size _ _ ((rd_T32 t272 x5_1).f0) from Kd.V_mk ul281_0 ge281_0)
                        clear hva_ hvn_ hvc_ ge281_0 ul281_0
                        clear hcc281 hce281
                        have HR281_0 := Aside0.mk hi281_0
                        have HC281_0 := Aside0.mk hl281_0
                        clear hi281_0 hl281_0
                        replace p281 := eq_true p281
                        replace q281 := eq_true q281
                        have ea_ := Option.some.inj (hx275_0.symm.trans hx281_0)
                        injection ea_ with ea_ en_ ec_
                        subst ea_
                        subst ec_
                        clear en_
                        go_wp2
                        go_roundg k2
                        case measure => have := HK1.out; have := HK2.out; omega
                        case rel => exact ⟨(wrap64 (x5_1 + 1)), (by first | rfl | (simp; done) | (simp [*]; done)), H', ⟨by have := HK1.out; have := HK2.out; omega⟩, ⟨by (with_reducible repeat (first | apply Kd.R_alloc | apply Kd.R_drewN | apply Kd.R_drew)); exact HO_3.out⟩, ⟨by (with_reducible repeat (first | apply Kd.N_alloc | apply Kd.N_drewN | apply Kd.N_drew)); exact HO_4.out⟩, ⟨by repeat (first | (with_reducible first | exact HB.out | apply below_alloc | apply pw_below_drewN | apply below_drew1) | exact HB.out)⟩⟩
              · rw [if_neg c10] at H
                exact absurd H (by simp)
            · rw [if_neg c9] at H
              exact absurd H (by simp)
      · rw [if_neg c7] at H
        have c7b0 : decide (x5_1 < (t272.length : Int)) = false := decide_eq_false c7
        clear c7
        replace H := Option.bind_eq_some_iff.mp H
        obtain ⟨t282, A200, H⟩ := H
        replace H : (if t282 = true then ((lines_Join.f k1 t272).bind fun t283 => ((redactorref01_Same.f k1 t283 t269).bind fun t286 => (if t286 = true then ((lines_Count.f t269).bind fun t287 => (some (t287 == (t272.length : Int)))) else (some false)))) else (some false)) = some r := H
        have A20 := Aside0.mk A200
        clear A200
        by_cases c21 : t282 = true
        · subst c21
          have H1 : ((lines_Join.f k1 t272).bind fun t283 => ((redactorref01_Same.f k1 t283 t269).bind fun t286 => (if t286 = true then ((lines_Count.f t269).bind fun t287 => (some (t287 == (t272.length : Int)))) else (some false)))) = some r := by rw [if_pos rfl] at H; exact H
          clear H
          have H := H1
          clear H1
          replace H := Option.bind_eq_some_iff.mp H
          obtain ⟨t283, A220, H⟩ := H
          replace H : ((redactorref01_Same.f k1 t283 t269).bind fun t286 => (if t286 = true then ((lines_Count.f t269).bind fun t287 => (some (t287 == (t272.length : Int)))) else (some false))) = some r := H
          have A22 := Aside0.mk A220
          clear A220
          replace H := Option.bind_eq_some_iff.mp H
          obtain ⟨t286, A230, H⟩ := H
          replace H : (if t286 = true then ((lines_Count.f t269).bind fun t287 => (some (t287 == (t272.length : Int)))) else (some false)) = some r := H
          have A23 := Aside0.mk A230
          clear A230
          by_cases c24 : t286 = true
          · subst c24
            have H1 : ((lines_Count.f t269).bind fun t287 => (some (t287 == (t272.length : Int)))) = some r := by rw [if_pos rfl] at H; exact H
            clear H
            have H := H1
            clear H1
            replace H := Option.bind_eq_some_iff.mp H
            obtain ⟨t287, A250, H⟩ := H
            replace H : (some (t287 == (t272.length : Int))) = some r := H
            have A25 := Aside0.mk A250
            clear A250
            obtain rfl := Option.some.inj H
            obtain ⟨Ao26, co26, eo26⟩ := Kd.N_slice HO_4.out
            subst eo26
            go_wp2_with (first | ((with_reducible refine gate_callee (f := 9) rfl ?_); refine goesL_ (some 66) rfl rfl Try.func9 (by kernel_rfl) rfl #[] rfl (by (try simp only [List.map_toArray, List.map_cons, List.map_nil]); first | done | rfl | (simp only [List.length_drop, List.length_take]; rfl)) ?_; (with_reducible refine (redactorlaw05_known.calls k1  true _ A20.out).mono ?_); rintro e w27 ⟨rfl, hb⟩; refine ⟨_, rfl, ?_⟩; have n0_ := Aside0.mk (Kd.R_below (by (with_reducible repeat (first | apply Kd.R_alloc | apply Kd.R_drewN | apply Kd.R_drew)); exact HO_3.out) hb); have n1_ := Aside0.mk (Kd.N_below (by (with_reducible repeat (first | apply Kd.N_alloc | apply Kd.N_drewN | apply Kd.N_drew)); exact HO_4.out) hb); have n2_ := Aside0.mk (below_step (by repeat (first | (with_reducible first | exact HB.out | apply below_alloc | apply pw_below_drewN | apply below_drew1) | exact HB.out)) hb); clear HO_3; clear HO_4; clear HB; have HO_3 := n0_; have HO_4 := n1_; have HB := n2_; clear n0_ n1_ n2_; (try clear hb); (try clear hb2); (try clear hk); (try clear hi)) | (go_at_call 14; (with_reducible refine (lines_Join.calls k1 _ _ t272 t283 _ ?side1 ?side2 A22.out).mono ?_); (case side1 => repeat (first | exact (Kd.N_reads' HO_4.out).2.2 | (with_reducible refine Kd.C_alloc ?_ _) | (with_reducible refine Kd.C_drewN ?_ _) | (with_reducible refine Kd.C_drew ?_))); (case side2 => exact (Kd.N_reads' HO_4.out).2.1); rintro e w28 ⟨v284, rfl, ho0, hb⟩; have n0_ := Aside0.mk (Kd.R_elder' (by (with_reducible repeat (first | apply Kd.R_alloc | apply Kd.R_drewN | apply Kd.R_drew)); exact HO_3.out) (Kd.R_base ho0) hb); have n1_ := Aside0.mk (Kd.N_elder' (by (with_reducible repeat (first | apply Kd.N_alloc | apply Kd.N_drewN | apply Kd.N_drew)); exact HO_4.out) (Kd.R_base ho0) hb); have n2_ := Aside0.mk (Kd.R_lower (Kd.R_new' ho0 (Kd.R_lt (by (with_reducible repeat (first | apply Kd.R_alloc | apply Kd.R_drewN | apply Kd.R_drew)); exact HO_3.out))) (below_size (by repeat (first | (with_reducible first | exact HB.out | apply below_alloc | apply pw_below_drewN | apply below_drew1) | exact HB.out)))); have n3_ := Aside0.mk (below_step (by repeat (first | (with_reducible first | exact HB.out | apply below_alloc | apply pw_below_drewN | apply below_drew1) | exact HB.out)) hb); clear HO_3; clear HO_4; clear HB; have HO_3 := n0_; have HO_4 := n1_; have HO285 := n2_; have HB := n3_; clear n0_ n1_ n2_ n3_; (try clear hb); (try clear hb2); (try clear hk); (try clear hi); (try clear ho0); obtain ⟨Ao29, co29, eo29⟩ := Kd.R_slice HO285.out; subst eo29) | (go_at_call 12; (with_reducible refine (redactorref01_Same.calls k1 _ _ t283 _ _ t269 true _ ?side1 ?side2 ?side3 ?side4 A23.out).mono ?_); (case side1 => repeat (first | exact (Kd.R_reads' HO285.out).2.2 | (with_reducible refine Kd.C_alloc ?_ _) | (with_reducible refine Kd.C_drewN ?_ _) | (with_reducible refine Kd.C_drew ?_))); (case side2 => exact (Kd.R_reads' HO285.out).2.1); (case side3 => repeat (first | exact (Kd.R_reads' HO_3.out).2.2 | (with_reducible refine Kd.C_alloc ?_ _) | (with_reducible refine Kd.C_drewN ?_ _) | (with_reducible refine Kd.C_drew ?_))); (case side4 => exact (Kd.R_reads' HO_3.out).2.1); rintro e w' ⟨rfl, ⟨nd, rfl⟩⟩) | (go_at_call 10; (with_reducible refine (lines_Count.calls _ _ t269 t287 _ ?side1 ?side2 A25.out).mono ?_); (case side1 => repeat (first | exact (Kd.R_reads' HO_3.out).2.2 | (with_reducible refine Kd.C_alloc ?_ _) | (with_reducible refine Kd.C_drewN ?_ _) | (with_reducible refine Kd.C_drew ?_))); (case side2 => exact (Kd.R_reads' HO_3.out).2.1); rintro e w30 ⟨rfl, hb⟩; have n0_ := Aside0.mk (Kd.R_below (by (with_reducible repeat (first | apply Kd.R_alloc | apply Kd.R_drewN | apply Kd.R_drew)); exact HO_3.out) hb); have n1_ := Aside0.mk (Kd.N_below (by (with_reducible repeat (first | apply Kd.N_alloc | apply Kd.N_drewN | apply Kd.N_drew)); exact HO_4.out) hb); have n2_ := Aside0.mk (Kd.R_below (by (with_reducible repeat (first | apply Kd.R_alloc | apply Kd.R_drewN | apply Kd.R_drew)); exact HO285.out) hb); have n3_ := Aside0.mk (below_step (by repeat (first | (with_reducible first | exact HB.out | apply below_alloc | apply pw_below_drewN | apply below_drew1) | exact HB.out)) hb); clear HO_3; clear HO_4; clear HO285; clear HB; have HO_3 := n0_; have HO_4 := n1_; have HO285 := n2_; have HB := n3_; clear n0_ n1_ n2_ n3_; (try clear hb); (try clear hb2); (try clear hk); (try clear hi)))
            go_ret
            exact ⟨by first | rfl | (simp [errW_none, errW_some] <;> rfl) | (simp [*, errW_none, errW_some] <;> rfl), by repeat (first | (with_reducible first | exact HB.out | apply below_alloc | apply pw_below_drewN | apply below_drew1) | exact HB.out)⟩
          · replace c24 := Bool.eq_false_iff.mpr c24
            subst c24
            have H1 : (some false) = some r := by rw [if_neg (show ¬ (false = true) by decide)] at H; exact H
            clear H
            have H := H1
            clear H1
            obtain rfl := Option.some.inj H
            obtain ⟨Ao31, co31, eo31⟩ := Kd.N_slice HO_4.out
            subst eo31
            go_wp2_with (first | ((with_reducible refine gate_callee (f := 9) rfl ?_); refine goesL_ (some 66) rfl rfl Try.func9 (by kernel_rfl) rfl #[] rfl (by (try simp only [List.map_toArray, List.map_cons, List.map_nil]); first | done | rfl | (simp only [List.length_drop, List.length_take]; rfl)) ?_; (with_reducible refine (redactorlaw05_known.calls k1  true _ A20.out).mono ?_); rintro e w32 ⟨rfl, hb⟩; refine ⟨_, rfl, ?_⟩; have n0_ := Aside0.mk (Kd.R_below (by (with_reducible repeat (first | apply Kd.R_alloc | apply Kd.R_drewN | apply Kd.R_drew)); exact HO_3.out) hb); have n1_ := Aside0.mk (Kd.N_below (by (with_reducible repeat (first | apply Kd.N_alloc | apply Kd.N_drewN | apply Kd.N_drew)); exact HO_4.out) hb); have n2_ := Aside0.mk (below_step (by repeat (first | (with_reducible first | exact HB.out | apply below_alloc | apply pw_below_drewN | apply below_drew1) | exact HB.out)) hb); clear HO_3; clear HO_4; clear HB; have HO_3 := n0_; have HO_4 := n1_; have HB := n2_; clear n0_ n1_ n2_; (try clear hb); (try clear hb2); (try clear hk); (try clear hi)) | (go_at_call 14; (with_reducible refine (lines_Join.calls k1 _ _ t272 t283 _ ?side1 ?side2 A22.out).mono ?_); (case side1 => repeat (first | exact (Kd.N_reads' HO_4.out).2.2 | (with_reducible refine Kd.C_alloc ?_ _) | (with_reducible refine Kd.C_drewN ?_ _) | (with_reducible refine Kd.C_drew ?_))); (case side2 => exact (Kd.N_reads' HO_4.out).2.1); rintro e w33 ⟨v284, rfl, ho0, hb⟩; have n0_ := Aside0.mk (Kd.R_elder' (by (with_reducible repeat (first | apply Kd.R_alloc | apply Kd.R_drewN | apply Kd.R_drew)); exact HO_3.out) (Kd.R_base ho0) hb); have n1_ := Aside0.mk (Kd.N_elder' (by (with_reducible repeat (first | apply Kd.N_alloc | apply Kd.N_drewN | apply Kd.N_drew)); exact HO_4.out) (Kd.R_base ho0) hb); have n2_ := Aside0.mk (Kd.R_lower (Kd.R_new' ho0 (Kd.R_lt (by (with_reducible repeat (first | apply Kd.R_alloc | apply Kd.R_drewN | apply Kd.R_drew)); exact HO_3.out))) (below_size (by repeat (first | (with_reducible first | exact HB.out | apply below_alloc | apply pw_below_drewN | apply below_drew1) | exact HB.out)))); have n3_ := Aside0.mk (below_step (by repeat (first | (with_reducible first | exact HB.out | apply below_alloc | apply pw_below_drewN | apply below_drew1) | exact HB.out)) hb); clear HO_3; clear HO_4; clear HB; have HO_3 := n0_; have HO_4 := n1_; have HO285 := n2_; have HB := n3_; clear n0_ n1_ n2_ n3_; (try clear hb); (try clear hb2); (try clear hk); (try clear hi); (try clear ho0); obtain ⟨Ao34, co34, eo34⟩ := Kd.R_slice HO285.out; subst eo34) | (go_at_call 12; (with_reducible refine (redactorref01_Same.calls k1 _ _ t283 _ _ t269 false _ ?side1 ?side2 ?side3 ?side4 A23.out).mono ?_); (case side1 => repeat (first | exact (Kd.R_reads' HO285.out).2.2 | (with_reducible refine Kd.C_alloc ?_ _) | (with_reducible refine Kd.C_drewN ?_ _) | (with_reducible refine Kd.C_drew ?_))); (case side2 => exact (Kd.R_reads' HO285.out).2.1); (case side3 => repeat (first | exact (Kd.R_reads' HO_3.out).2.2 | (with_reducible refine Kd.C_alloc ?_ _) | (with_reducible refine Kd.C_drewN ?_ _) | (with_reducible refine Kd.C_drew ?_))); (case side4 => exact (Kd.R_reads' HO_3.out).2.1); rintro e w' ⟨rfl, ⟨nd, rfl⟩⟩))
            go_ret
            exact ⟨by first | rfl | (simp [errW_none, errW_some] <;> rfl) | (simp [*, errW_none, errW_some] <;> rfl), by repeat (first | (with_reducible first | exact HB.out | apply below_alloc | apply pw_below_drewN | apply below_drew1) | exact HB.out)⟩
        · replace c21 := Bool.eq_false_iff.mpr c21
          subst c21
          have H1 : (some false) = some r := by rw [if_neg (show ¬ (false = true) by decide)] at H; exact H
          clear H
          have H := H1
          clear H1
          obtain rfl := Option.some.inj H
          obtain ⟨Ao35, co35, eo35⟩ := Kd.N_slice HO_4.out
          subst eo35
          go_wp2_with (first | ((with_reducible refine gate_callee (f := 9) rfl ?_); refine goesL_ (some 66) rfl rfl Try.func9 (by kernel_rfl) rfl #[] rfl (by (try simp only [List.map_toArray, List.map_cons, List.map_nil]); first | done | rfl | (simp only [List.length_drop, List.length_take]; rfl)) ?_; (with_reducible refine (redactorlaw05_known.calls k1  false _ A20.out).mono ?_); rintro e w36 ⟨rfl, hb⟩; refine ⟨_, rfl, ?_⟩; have n0_ := Aside0.mk (Kd.R_below (by (with_reducible repeat (first | apply Kd.R_alloc | apply Kd.R_drewN | apply Kd.R_drew)); exact HO_3.out) hb); have n1_ := Aside0.mk (Kd.N_below (by (with_reducible repeat (first | apply Kd.N_alloc | apply Kd.N_drewN | apply Kd.N_drew)); exact HO_4.out) hb); have n2_ := Aside0.mk (below_step (by repeat (first | (with_reducible first | exact HB.out | apply below_alloc | apply pw_below_drewN | apply below_drew1) | exact HB.out)) hb); clear HO_3; clear HO_4; clear HB; have HO_3 := n0_; have HO_4 := n1_; have HB := n2_; clear n0_ n1_ n2_; (try clear hb); (try clear hb2); (try clear hk); (try clear hi)))
          go_ret
          exact ⟨by first | rfl | (simp [errW_none, errW_some] <;> rfl) | (simp [*, errW_none, errW_some] <;> rfl), by repeat (first | (with_reducible first | exact HB.out | apply below_alloc | apply pw_below_drewN | apply below_drew1) | exact HB.out)⟩

/-- THE ONE PURE STATEMENT of redactorlaw05_LinesBack: yours. -/
def redactorlaw05_LinesBack.Pure : Prop := ∀ (l0 : List Int), l0.length ≤ maxLen → l0.length * 1 ≤ 140737488351232 → (∀ x ∈ l0, (Lit.int .u8 x).wf = true) → ∃ k, redactorlaw05_LinesBack.f k l0 = some true
theorem redactorlaw05_LinesBack.walk (P : redactorlaw05_LinesBack.Pure) (a0 : Option Addr) (len0 cap0 : Nat) (z0 : List Int) (w : World) (w0 : (a0 = none ∧ len0 = 0 ∧ cap0 = 0 ∧ z0 = []) ∨ ∃ x, a0 = some x ∧ len0 ≤ cap0 ∧ cap0 ≤ maxLen ∧ z0.length = cap0 ∧ (∀ i, i < z0.length → w.cell? (x.add i) = some (.int .u8 (z0.getD i 0))) ∧ ∀ n ∈ z0, (Lit.int .u8 n).wf = true) (y0 : len0 * 1 ≤ 140737488351232) :
    Calls Try.prog 6 #[.slice a0 len0 cap0] w fun e w' => e = .returned (.bool true) ∧ Below w.heap.size w w' := by
  obtain ⟨l0, rfl, hr0, hm0, hw0, hc0⟩ := ReadsInt.ofRowC w0
  obtain ⟨k, h⟩ := P l0 hm0 y0 hw0
  refine (redactorlaw05_LinesBack.calls k _ _ l0 true w (Kd.C_of_reads (d := (0 : Int)) (h1 := fun _ => rfl) hr0) hc0 h).mono ?_
  rintro e w' ⟨rfl, hd⟩
  exact ⟨rfl, hd⟩

end Go.Proofs.Ytgfanljjldcdfaa.PAll
