/- Written for this seat by a program of this session (wip/tools/pp.py): Lean functions with the same answers as the Go functions, and the proofs that they are. Lean checks it. -/
import Derived.Test.YtfgccmgfkfhfcaaPAllx0
import Derived.Test.YtfgccmgfkfhfcaaPAllx3
import Derived.Test.YtfgccmgfkfhfcaaPAllx7
namespace Go.Proofs.Ytfgccmgfkfhfcaa.PAll
open Go.RowKit Go.Proofs.YtfgccmgfkfhfcaaW.PrintWords Go.Proofs.YtfgccmgfkfhfcaaW.PrintLast Go.Proofs.YtfgccmgfkfhfcaaW.PrintMore
attribute [local go_sem] max2_int min2_int max_two min_two max_three min_three max_four min_four   -- for this text's walks alone
set_option linter.unusedVariables false
set_option linter.unusedSimpArgs false

/-! ### redactorref14_Parse: function 17 -/
mutual
def redactorref14_Parse.l0 : Nat → List Int → Int → Int → List (S49) → Int → Option ((List (S49)) × Int × Int × Int)
  | 0, _, _, _, _, _ => none
  | k + 1, x0, x2, x3, x12, x13 => if x13 < (x0.length : Int) then (if 0 ≤ x13 then (if (rd x0 x13) = x2 then (some (x12, wrap64 (x13 + 1), 0, 0)) else (if (rd x0 x13) = 10 then (some (([] : List (S49)), 0, 30, x13)) else (if (rd x0 x13) = 38 then (if x12.length < 3518437208883 then (redactorref14_Parse.l0 k x0 x2 x3 (x12 ++ [(⟨2, ([] : List Int), 0⟩ : S49)]) (wrap64 (x13 + 1))) else (none)) else (if (rd x0 x13) = 92 then (if (wrap64 (x13 + 1)) ≥ (x0.length : Int) then (some (([] : List (S49)), 0, 30, (x0.length : Int))) else (if 0 ≤ (wrap64 (x13 + 1)) then (if (wrap64 (x13 + 1)) < (x0.length : Int) then (if (rd x0 (wrap64 (x13 + 1))) = x2 then (redactorref14_Parse.j1 k x0 x2 x3 x12 x13 (rd x0 (wrap64 (x13 + 1))) false) else (if (rd x0 (wrap64 (x13 + 1))) ≥ 48 then (redactorref14_Parse.j1 k x0 x2 x3 x12 x13 (rd x0 (wrap64 (x13 + 1))) (decide ((rd x0 (wrap64 (x13 + 1))) ≤ 57))) else (redactorref14_Parse.j1 k x0 x2 x3 x12 x13 (rd x0 (wrap64 (x13 + 1))) false))) else (none)) else (none))) else ((redactorref14_put.f x12 (rd x0 x13)).bind fun t334 => (redactorref14_Parse.l0 k x0 x2 x3 t334 (wrap64 (x13 + 1)))))))) else (none)) else (some (([] : List (S49)), 0, 30, (x0.length : Int)))
def redactorref14_Parse.j1 : Nat → List Int → Int → Int → List (S49) → Int → Int → Bool → Option ((List (S49)) × Int × Int × Int)
  | 0, _, _, _, _, _, _, _ => none
  | k + 1, x0, x2, x3, x12, x13, x15, x72 => if x72 = true then (if (wrap64 (wrap32 (x15 - 48))) > x3 then (some (([] : List (S49)), 0, 43, x13)) else (if x12.length < 3518437208883 then (redactorref14_Parse.l0 k x0 x2 x3 (x12 ++ [(⟨2, ([] : List Int), wrap64 (wrap32 (x15 - 48))⟩ : S49)]) (wrap64 (x13 + 2))) else (none))) else (if x15 = 110 then (if x2 = 110 then ((redactorref14_put.f x12 x15).bind fun t341 => (redactorref14_Parse.l0 k x0 x2 x3 t341 (wrap64 (x13 + 2)))) else ((redactorref14_put.f x12 10).bind fun t344 => (redactorref14_Parse.l0 k x0 x2 x3 t344 (wrap64 (x13 + 2))))) else ((redactorref14_put.f x12 x15).bind fun t347 => (redactorref14_Parse.l0 k x0 x2 x3 t347 (wrap64 (x13 + 2)))))
end
def redactorref14_Parse.f (k : Nat) (l0 : List Int) (a1 : Int) (a2 : Int) (a3 : Int) : Option ((List (S49)) × Int × Int × Int) := redactorref14_Parse.l0 k l0 a2 a3 ([] : List (S49)) (mx a1 0)
theorem redactorref14_Parse.mono_l : ∀ k, (∀ y0 y1 y2 y3 y4, LeO (redactorref14_Parse.l0 k y0 y1 y2 y3 y4) (redactorref14_Parse.l0 (k + 1) y0 y1 y2 y3 y4)) ∧ (∀ y0 y1 y2 y3 y4 y5 y6, LeO (redactorref14_Parse.j1 k y0 y1 y2 y3 y4 y5 y6) (redactorref14_Parse.j1 (k + 1) y0 y1 y2 y3 y4 y5 y6))
  | 0 => ⟨fun _ _ _ _ _ r h => by simp [redactorref14_Parse.l0] at h, fun _ _ _ _ _ _ _ r h => by simp [redactorref14_Parse.j1] at h⟩
  | k + 1 => by
    obtain ⟨ih0, ih1⟩ := redactorref14_Parse.mono_l k
    refine ⟨?_, ?_⟩
    · intro y0 y1 y2 y3 y4
      unfold redactorref14_Parse.l0
      repeat' first
      | (with_reducible exact ih0 _ _ _ _ _)
      | (with_reducible exact ih1 _ _ _ _ _ _ _)
      | (with_reducible exact LeO.refl _)
      | (with_reducible exact LeO.none _)
      | (with_reducible refine LeO.ite ?_ ?_)
      | (with_reducible refine LeO.bind ?_ (fun _ => ?_))
      | exact ih0 _ _ _ _ _
      | exact ih1 _ _ _ _ _ _ _
      | exact LeO.none _
      | refine LeO.ite ?_ ?_
      | refine LeO.bind ?_ (fun _ => ?_)
    · intro y0 y1 y2 y3 y4 y5 y6
      unfold redactorref14_Parse.j1
      repeat' first
      | (with_reducible exact ih0 _ _ _ _ _)
      | (with_reducible exact ih1 _ _ _ _ _ _ _)
      | (with_reducible exact LeO.refl _)
      | (with_reducible exact LeO.none _)
      | (with_reducible refine LeO.ite ?_ ?_)
      | (with_reducible refine LeO.bind ?_ (fun _ => ?_))
      | exact ih0 _ _ _ _ _
      | exact ih1 _ _ _ _ _ _ _
      | exact LeO.none _
      | refine LeO.ite ?_ ?_
      | refine LeO.bind ?_ (fun _ => ?_)
theorem redactorref14_Parse.mono : ∀ a0 a1 a2 a3 k, LeO (redactorref14_Parse.f k a0 a1 a2 a3) (redactorref14_Parse.f (k + 1) a0 a1 a2 a3) := by
  intro a0 a1 a2 a3 k
  obtain ⟨ih0, ih1⟩ := redactorref14_Parse.mono_l k
  unfold redactorref14_Parse.f
  repeat' first
      | (with_reducible exact ih0 _ _ _ _ _)
      | (with_reducible exact ih1 _ _ _ _ _ _ _)
      | (with_reducible exact LeO.refl _)
      | (with_reducible exact LeO.none _)
      | (with_reducible refine LeO.ite ?_ ?_)
      | (with_reducible refine LeO.bind ?_ (fun _ => ?_))
      | exact ih0 _ _ _ _ _
      | exact ih1 _ _ _ _ _ _ _
      | exact LeO.none _
      | refine LeO.ite ?_ ?_
      | refine LeO.bind ?_ (fun _ => ?_)
set_option maxHeartbeats 8000000 in
set_option maxRecDepth 100000 in
theorem redactorref14_Parse.calls (k : Nat) (A0 : Option Addr) (c0 : Nat) (l0 : List Int) (a1 : Int) (a2 : Int) (a3 : Int) (r1 : List (S49)) (r2 : Int) (r3 : Int) (r4 : Int) (w : World) (hr0 : Kd.C (Kd.int .i32) w A0 l0.length l0) (hc0 : l0.length ≤ c0) (h : redactorref14_Parse.f k l0 a1 a2 a3 = some (r1, r2, r3, r4)) :
    Calls Try.prog 17 #[.slice A0 l0.length c0, .int .i64 a1, .int .i32 a2, .int .i64 a3] w fun e w' => ∃ v0_ : Value, e = .returned (.tuple #[v0_, .int .i64 r2, .int .i64 r3, .int .i64 r4]) ∧ Kd.N k49 49 w' w.heap.size (fun k_ => (w.heap.size ≤ k_)) v0_ r1 ∧ Below w.heap.size w w' := by
  have hu49 := Try.underlying49
  have HR0 := Aside0.mk hr0
  have HC0 := Aside0.mk hc0
  clear hr0 hc0
  have HB := Aside0.mk (Below.refl w.heap.size w)
  have H : (redactorref14_Parse.l0 k l0 a2 a3 ([] : List (S49)) (mx a1 0)) = some (r1, r2, r3, r4) := h
  clear h
  obtain ⟨ji5, hji5⟩ : ∃ j_ : Int, (mx a1 0) = j_ := ⟨_, rfl⟩
  replace H : (redactorref14_Parse.l0 k l0 a2 a3 ([] : List (S49)) ji5) = some (r1, r2, r3, r4) := by first | (rw [hji5] at H; exact H) | (simp only [hji5] at H ⊢; exact H)
  (try (have hji5l : 0 ≤ ji5 := by (rw [← hji5]; unfold mx; (repeat' split) <;> omega)))
  (try (have hji5m : 0 ≤ ji5 := by omega))
  have hji5_ : (if a1 < 0 then 0 else a1) = ji5 := hji5
  have H' := Aside0.mk H
  clear H
  go_enter Try.func17, Try.ntmps17
  go_wp2
  go_loopg [12, 13] k (fun kq v12 v13 w' => ∃ (x12_1 : List (S49)) (x13_1 : Int), v13 = .int .i64 x13_1 ∧ Aside0 (redactorref14_Parse.l0 kq l0 a2 a3 x12_1 x13_1 = some (r1, r2, r3, r4)) ∧ Aside0 (kq ≤ k) ∧ Aside0 (Kd.N k49 49 w' w.heap.size (fun k_ => (w.heap.size ≤ k_)) v12 x12_1) ∧ Aside0 (Below w.heap.size w w'))
  case atStart => exact ⟨(([] : List (S49))), (ji5), (by first | rfl | (simp; done) | (simp only [← hji5] <;> (first | rfl | simp)) | (simp [*]; done)), H', ⟨Nat.le_refl _⟩, ⟨by first | exact Kd.S_nil _ _ _ _ _ | exact Kd.N_nil _ _ _ _ _ | exact Kd.V_nil _ _ _ _ _ | exact Kd.Q_nil _ _ _ _ _ | exact Kd.R_nil _ _ _ _ _⟩, ⟨by repeat (first | (with_reducible first | exact HB.out | apply below_alloc | apply pw_below_drewN | apply below_drew1) | exact HB.out)⟩⟩
  case round =>
    clear H'
    try clear c1
    try clear p2
    obtain ⟨x12_1, x13_1, rfl, HA, HK1, HO_12, HB⟩ := hrel
    cases gk with
    | zero => exact absurd HA.out (by simp [redactorref14_Parse.l0])
    | succ k1 =>
      have H := HA.out
      clear HA
      simp only [redactorref14_Parse.l0] at H
      by_cases c6 : x13_1 < (l0.length : Int)
      · rw [if_pos c6] at H
        have c6b0 : decide (x13_1 < (l0.length : Int)) = true := decide_eq_true c6
        clear c6
        by_cases c7 : 0 ≤ x13_1
        · rw [if_pos c7] at H
          have c7b0 : decide (0 ≤ x13_1) = true := decide_eq_true c7
          clear c7
          by_cases c8 : (rd l0 x13_1) = a2
          · rw [if_pos c8] at H
            have c8b0 : ((rd l0 x13_1) == a2) = true := beq_iff_eq.mpr c8
            have c8b1 : ((rd l0 x13_1) != a2) = false := bne_eq_false_iff_eq.mpr c8
            clear c8
            simp only [Option.some.injEq, Prod.mk.injEq] at H
            obtain ⟨rfl, rfl, rfl, rfl⟩ := H
            have p330 : 0 ≤ (x13_1 : Int) := of_decide_eq_true (by first | (with_reducible assumption) | assumption)
            have q330 : x13_1 < (l0.length : Int) := of_decide_eq_true (by first | (with_reducible assumption) | assumption)
            obtain ⟨ad330, e330, hx330_0⟩ := Kd.at_int HR0.out x13_1 p330 q330
            cases e330
            replace hx330_0 := (HB.out.cell (World.block_lt_of_cell? w _ hx330_0)).trans hx330_0
            replace p330 := eq_true p330
            replace q330 := eq_true q330
            go_wp2
            refine bodyPost_ret (results_list (rs := [.tmp 8, .tmp 9, .tmp 10, .tmp 11]) rfl (by simp) (.tmp (.tmp (.tmp (.tmp .nil))))) rfl ?_
            exact ⟨_, by first | rfl | (simp [errW_none, errW_some] <;> rfl) | (simp only [← hji5]; first | rfl | (simp [errW_none, errW_some] <;> rfl)) | (simp [*, errW_none, errW_some] <;> rfl), by (with_reducible repeat (first | apply Kd.N_alloc | apply Kd.N_drewN | apply Kd.N_drew)); exact HO_12.out, by repeat (first | (with_reducible first | exact HB.out | apply below_alloc | apply pw_below_drewN | apply below_drew1) | exact HB.out)⟩
          · rw [if_neg c8] at H
            have c8b0 : ((rd l0 x13_1) == a2) = false := beq_eq_false_iff_ne.mpr c8
            have c8b1 : ((rd l0 x13_1) != a2) = true := bne_iff_ne.mpr c8
            by_cases c9 : (rd l0 x13_1) = 10
            · rw [if_pos c9] at H
              have c9b0 : ((rd l0 x13_1) == 10) = true := beq_iff_eq.mpr c9
              have c9b1 : ((rd l0 x13_1) != 10) = false := bne_eq_false_iff_eq.mpr c9
              clear c9
              simp only [Option.some.injEq, Prod.mk.injEq] at H
              obtain ⟨rfl, rfl, rfl, rfl⟩ := H
              have p330 : 0 ≤ (x13_1 : Int) := of_decide_eq_true (by first | (with_reducible assumption) | assumption)
              have q330 : x13_1 < (l0.length : Int) := of_decide_eq_true (by first | (with_reducible assumption) | assumption)
              obtain ⟨ad330, e330, hx330_0⟩ := Kd.at_int HR0.out x13_1 p330 q330
              cases e330
              replace hx330_0 := (HB.out.cell (World.block_lt_of_cell? w _ hx330_0)).trans hx330_0
              replace p330 := eq_true p330
              replace q330 := eq_true q330
              go_wp2
              refine bodyPost_ret (results_list (rs := [.tmp 8, .tmp 9, .tmp 10, .tmp 11]) rfl (by simp) (.tmp (.tmp (.tmp (.tmp .nil))))) rfl ?_
              exact ⟨_, by first | rfl | (simp [errW_none, errW_some] <;> rfl) | (simp only [← hji5]; first | rfl | (simp [errW_none, errW_some] <;> rfl)) | (simp [*, errW_none, errW_some] <;> rfl), by first | exact Kd.S_nil _ _ _ _ _ | exact Kd.N_nil _ _ _ _ _ | exact Kd.V_nil _ _ _ _ _ | exact Kd.Q_nil _ _ _ _ _ | exact Kd.R_nil _ _ _ _ _, by repeat (first | (with_reducible first | exact HB.out | apply below_alloc | apply pw_below_drewN | apply below_drew1) | exact HB.out)⟩
            · rw [if_neg c9] at H
              have c9b0 : ((rd l0 x13_1) == 10) = false := beq_eq_false_iff_ne.mpr c9
              have c9b1 : ((rd l0 x13_1) != 10) = true := bne_iff_ne.mpr c9
              by_cases c10 : (rd l0 x13_1) = 38
              · rw [if_pos c10] at H
                have c10b0 : ((rd l0 x13_1) == 38) = true := beq_iff_eq.mpr c10
                have c10b1 : ((rd l0 x13_1) != 38) = false := bne_eq_false_iff_eq.mpr c10
                clear c10
                by_cases c11 : x12_1.length < 3518437208883
                · rw [if_pos c11] at H
                  have LMc11 := Aside0.mk c11
                  clear c11
                  obtain ⟨y331, hy331⟩ : ∃ y_ : List (S49), y_ = (x12_1 ++ [(⟨2, ([] : List Int), 0⟩ : S49)]) := ⟨_, rfl⟩
                  replace H : (redactorref14_Parse.l0 k1 l0 a2 a3 y331 (wrap64 (x13_1 + 1))) = some (r1, r2, r3, r4) := by first | (rw [hy331]; with_reducible exact H) | (have H2_ := (Option.bind_some _ _).symm.trans H; rw [hy331]; with_reducible exact H2_) | (have H2_ := (Option.bind_some _ _).symm.trans H; with_reducible exact H2_) | with_reducible exact H | (rw [hy331]; exact H) | exact H
                  have Ny331 := Aside0.mk hy331
                  clear hy331
                  have H' := Aside0.mk H
                  clear H
                  have p330 : 0 ≤ (x13_1 : Int) := of_decide_eq_true (by first | (with_reducible assumption) | assumption)
                  have q330 : x13_1 < (l0.length : Int) := of_decide_eq_true (by first | (with_reducible assumption) | assumption)
                  obtain ⟨ad330, e330, hx330_0⟩ := Kd.at_int HR0.out x13_1 p330 q330
                  cases e330
                  replace hx330_0 := (HB.out.cell (World.block_lt_of_cell? w _ hx330_0)).trans hx330_0
                  replace p330 := eq_true p330
                  replace q330 := eq_true q330
                  go_wp2_with (first | ((with_reducible refine gate_builtin (b := .append) (xs := #[.tmp 37, .tmp 39]) rfl ?_); at_builtin; refine Kd.N_append k49 (w0 := w) w.heap.size rfl (.tmp 37) (.tmp 39) 38 49 (.agg #[(.int .u8 0), (.slice none 0 0), (.int .i64 0)]) 40 rfl Try.underlying38 info49 rfl (by decide) (by omega) u12 x12_1 (⟨2, ([] : List Int), 0⟩ : S49) [.int .u8 2, .slice none 0 0, .int .i64 0] (fun k_ => (w.heap.size ≤ k_)) (fun k_ => ((fun k_ => (w.heap.size ≤ k_))) k_ ∧ some k_ ≠ (u12 : Value).ownBlock) rfl rfl ?aP (fun _ hk => hk) ?aF ?aO ?aB ?aS ?aL ?_; (case aP => exact (k49_mkF _ _ (⟨2, ([] : List Int), 0⟩ : S49) (Nat.le_refl _) (Kd.F_nil _ _ _))); (case aB => exact (by repeat (first | (with_reducible first | exact HB.out | apply below_alloc | apply pw_below_drewN | apply below_drew1) | exact HB.out))); (case aF => exact (fun k_ hk => (Nat.le_trans (below_size (by repeat (first | (with_reducible first | exact HB.out | apply below_alloc | apply pw_below_drewN | apply below_drew1) | exact HB.out))) hk))); (case aO => exact (by (with_reducible repeat (first | apply Kd.N_alloc | apply Kd.N_drewN | apply Kd.N_drew)); exact HO_12.out)); (case aS => exact (below_size (by repeat (first | (with_reducible first | exact HB.out | apply below_alloc | apply pw_below_drewN | apply below_drew1) | exact HB.out)))); (case aL => have := LMc11.out; omega); intro v332 w12 ho hb hg hat; rw [← Ny331.out] at ho; have n0_ := Aside0.mk (hb); have n1_ := Aside0.mk (ho); clear HB; clear HO_12; have HB := n0_; have HO333 := n1_; clear n0_ n1_; clear ho hb hg hat))
                  go_roundg k1
                  case measure => have := HK1.out; omega
                  case rel => exact ⟨(y331), (wrap64 (x13_1 + 1)), (by first | rfl | (simp; done) | (simp [*]; done)), H', ⟨by have := HK1.out; omega⟩, ⟨by (with_reducible repeat (first | apply Kd.N_alloc | apply Kd.N_drewN | apply Kd.N_drew)); exact HO333.out⟩, ⟨by repeat (first | (with_reducible first | exact HB.out | apply below_alloc | apply pw_below_drewN | apply below_drew1) | exact HB.out)⟩⟩
                · rw [if_neg c11] at H
                  exact absurd H (by simp)
              · rw [if_neg c10] at H
                have c10b0 : ((rd l0 x13_1) == 38) = false := beq_eq_false_iff_ne.mpr c10
                have c10b1 : ((rd l0 x13_1) != 38) = true := bne_iff_ne.mpr c10
                by_cases c13 : (rd l0 x13_1) = 92
                · rw [if_pos c13] at H
                  have c13b0 : ((rd l0 x13_1) == 92) = true := beq_iff_eq.mpr c13
                  have c13b1 : ((rd l0 x13_1) != 92) = false := bne_eq_false_iff_eq.mpr c13
                  clear c13
                  by_cases c14 : (wrap64 (x13_1 + 1)) ≥ (l0.length : Int)
                  · rw [if_pos c14] at H
                    have c14b0 : decide ((l0.length : Int) ≤ (wrap64 (x13_1 + 1))) = true := decide_eq_true c14
                    clear c14
                    simp only [Option.some.injEq, Prod.mk.injEq] at H
                    obtain ⟨rfl, rfl, rfl, rfl⟩ := H
                    have p330 : 0 ≤ (x13_1 : Int) := of_decide_eq_true (by first | (with_reducible assumption) | assumption)
                    have q330 : x13_1 < (l0.length : Int) := of_decide_eq_true (by first | (with_reducible assumption) | assumption)
                    obtain ⟨ad330, e330, hx330_0⟩ := Kd.at_int HR0.out x13_1 p330 q330
                    cases e330
                    replace hx330_0 := (HB.out.cell (World.block_lt_of_cell? w _ hx330_0)).trans hx330_0
                    replace p330 := eq_true p330
                    replace q330 := eq_true q330
                    go_wp2
                    refine bodyPost_ret (results_list (rs := [.tmp 8, .tmp 9, .tmp 10, .tmp 11]) rfl (by simp) (.tmp (.tmp (.tmp (.tmp .nil))))) rfl ?_
                    exact ⟨_, by first | rfl | (simp [errW_none, errW_some] <;> rfl) | (simp only [← hji5]; first | rfl | (simp [errW_none, errW_some] <;> rfl)) | (simp [*, errW_none, errW_some] <;> rfl), by first | exact Kd.S_nil _ _ _ _ _ | exact Kd.N_nil _ _ _ _ _ | exact Kd.V_nil _ _ _ _ _ | exact Kd.Q_nil _ _ _ _ _ | exact Kd.R_nil _ _ _ _ _, by repeat (first | (with_reducible first | exact HB.out | apply below_alloc | apply pw_below_drewN | apply below_drew1) | exact HB.out)⟩
                  · rw [if_neg c14] at H
                    have c14b0 : decide ((l0.length : Int) ≤ (wrap64 (x13_1 + 1))) = false := decide_eq_false c14
                    clear c14
                    obtain ⟨ji15, hji15⟩ : ∃ j_ : Int, (wrap64 (x13_1 + 1)) = j_ := ⟨_, rfl⟩
                    replace H : (if 0 ≤ (ji15) then (if (ji15) < (l0.length : Int) then (if (rd l0 (ji15)) = a2 then (redactorref14_Parse.j1 k1 l0 a2 a3 x12_1 x13_1 (rd l0 (ji15)) false) else (if (rd l0 (ji15)) ≥ 48 then (redactorref14_Parse.j1 k1 l0 a2 a3 x12_1 x13_1 (rd l0 (ji15)) (decide ((rd l0 (ji15)) ≤ 57))) else (redactorref14_Parse.j1 k1 l0 a2 a3 x12_1 x13_1 (rd l0 (ji15)) false))) else (none)) else (none)) = some (r1, r2, r3, r4) := by first | (rw [hji15] at H; exact H) | (simp only [hji15] at H ⊢; exact H)
                    (try rw [hji15] at c14b0)
                    have hji15w : (IntKind.i64.wrap (x13_1 + 1)) = ji15 := (i64_w _).trans hji15
                    by_cases c16 : 0 ≤ (ji15)
                    · rw [if_pos c16] at H
                      have c16b0 : decide (0 ≤ (ji15)) = true := decide_eq_true c16
                      clear c16
                      by_cases c17 : (ji15) < (l0.length : Int)
                      · rw [if_pos c17] at H
                        have c17b0 : decide ((ji15) < (l0.length : Int)) = true := decide_eq_true c17
                        clear c17
                        have HC18 := Aside0.mk H
                        clear H
                        have p330 : 0 ≤ (x13_1 : Int) := of_decide_eq_true (by first | (with_reducible assumption) | assumption)
                        have q330 : x13_1 < (l0.length : Int) := of_decide_eq_true (by first | (with_reducible assumption) | assumption)
                        obtain ⟨ad330, e330, hx330_0⟩ := Kd.at_int HR0.out x13_1 p330 q330
                        cases e330
                        replace hx330_0 := (HB.out.cell (World.block_lt_of_cell? w _ hx330_0)).trans hx330_0
                        replace p330 := eq_true p330
                        replace q330 := eq_true q330
                        have p337 : 0 ≤ ((ji15) : Int) := of_decide_eq_true (by first | (with_reducible assumption) | assumption)
                        have q337 : (ji15) < (l0.length : Int) := of_decide_eq_true (by first | (with_reducible assumption) | assumption)
                        obtain ⟨ad337, e337, hx337_0⟩ := Kd.at_int HR0.out (ji15) p337 q337
                        obtain rfl : ad330 = ad337 := (by injection e337)
                        replace hx337_0 := (HB.out.cell (World.block_lt_of_cell? w _ hx337_0)).trans hx337_0
                        replace p337 := eq_true p337
                        replace q337 := eq_true q337
                        go_upto_region 18 with (fail)
                        go_cut [72] (fun v72 wc => ∃ (kq : Nat) (x72_17 : Bool), v72 = .bool x72_17 ∧ Aside0 (redactorref14_Parse.j1 kq l0 a2 a3 x12_1 x13_1 (rd l0 (ji15)) x72_17 = some (r1, r2, r3, r4)) ∧ Aside0 (kq ≤ k1) ∧ Aside0 (Kd.N k49 49 wc w.heap.size (fun k_ => (w.heap.size ≤ k_)) u12 x12_1) ∧ Aside0 (Below w.heap.size w wc))
                        case first =>
                          have H := HC18.out
                          clear HC18
                          by_cases c19 : (rd l0 (ji15)) = a2
                          · rw [if_pos c19] at H
                            have c19b0 : ((rd l0 (ji15)) == a2) = true := beq_iff_eq.mpr c19
                            have c19b1 : ((rd l0 (ji15)) != a2) = false := bne_eq_false_iff_eq.mpr c19
                            clear c19
                            (first | rw [c19b0] | (simp only [i64_w, i32_w]; rw [c19b0]) | skip)
                            have H' := Aside0.mk H
                            clear H
                            go_wp2
                            go_meet
                            case rel => exact ⟨_, (false), (by first | rfl | (simp; done) | (simp [*]; done)), H', ⟨by have := HK1.out; first | omega | exact Nat.le_refl _⟩, ⟨by (with_reducible repeat (first | apply Kd.N_alloc | apply Kd.N_drewN | apply Kd.N_drew)); exact HO_12.out⟩, ⟨by repeat (first | (with_reducible first | exact HB.out | apply below_alloc | apply pw_below_drewN | apply below_drew1) | exact HB.out)⟩⟩
                          · rw [if_neg c19] at H
                            have c19b0 : ((rd l0 (ji15)) == a2) = false := beq_eq_false_iff_ne.mpr c19
                            have c19b1 : ((rd l0 (ji15)) != a2) = true := bne_iff_ne.mpr c19
                            (first | rw [c19b0] | (simp only [i64_w, i32_w]; rw [c19b0]) | skip)
                            by_cases c20 : (rd l0 (ji15)) ≥ 48
                            · rw [if_pos c20] at H
                              have c20b0 : decide (48 ≤ (rd l0 (ji15))) = true := decide_eq_true c20
                              clear c20
                              have H' := Aside0.mk H
                              clear H
                              go_wp2
                              go_meet
                              case rel => exact ⟨_, (decide ((rd l0 (ji15)) ≤ 57)), (by first | rfl | (simp; done) | (simp only [← hji15] <;> (first | rfl | simp)) | (simp [*]; done)), H', ⟨by have := HK1.out; first | omega | exact Nat.le_refl _⟩, ⟨by (with_reducible repeat (first | apply Kd.N_alloc | apply Kd.N_drewN | apply Kd.N_drew)); exact HO_12.out⟩, ⟨by repeat (first | (with_reducible first | exact HB.out | apply below_alloc | apply pw_below_drewN | apply below_drew1) | exact HB.out)⟩⟩
                            · rw [if_neg c20] at H
                              have c20b0 : decide (48 ≤ (rd l0 (ji15))) = false := decide_eq_false c20
                              clear c20
                              have H' := Aside0.mk H
                              clear H
                              go_wp2
                              go_meet
                              case rel => exact ⟨_, (false), (by first | rfl | (simp; done) | (simp [*]; done)), H', ⟨by have := HK1.out; first | omega | exact Nat.le_refl _⟩, ⟨by (with_reducible repeat (first | apply Kd.N_alloc | apply Kd.N_drewN | apply Kd.N_drew)); exact HO_12.out⟩, ⟨by repeat (first | (with_reducible first | exact HB.out | apply below_alloc | apply pw_below_drewN | apply below_drew1) | exact HB.out)⟩⟩
                        case rest =>
                          clear HC18
                          try clear c1
                          try clear c2
                          try clear p2
                          try clear p3
                          try clear q3
                          try clear hx3
                          try clear c6
                          try clear c6b0
                          try clear p6
                          try clear c7
                          try clear c7b0
                          try clear c8
                          try clear c8b0
                          try clear c8b1
                          try clear c9
                          try clear c9b0
                          try clear c9b1
                          try clear c10
                          try clear c10b0
                          try clear c10b1
                          try clear c11
                          try clear c13
                          try clear c13b0
                          try clear c13b1
                          try clear c14
                          try clear c14b0
                          try clear c16
                          try clear c16b0
                          try clear c17
                          try clear c17b0
                          try clear c19
                          try clear c19b0
                          try clear c19b1
                          try clear c20
                          try clear c20b0
                          try clear hx330_0
                          try clear hx337_0
                          try clear p2
                          try clear p330
                          try clear p337
                          try clear q330
                          try clear q337
                          obtain ⟨kq, x72_17, rfl, HA, HJ17, HO_12, HB⟩ := hcut
                          cases kq with
                          | zero => exact absurd HA.out (by simp [redactorref14_Parse.j1])
                          | succ kj17 =>
                            have H := HA.out
                            clear HA
                            simp only [redactorref14_Parse.j1] at H
                            by_cases c21 : x72_17 = true
                            · subst c21
                              have H1 : (if (wrap64 (wrap32 ((rd l0 (ji15)) - 48))) > a3 then (some (([] : List (S49)), 0, 43, x13_1)) else (if x12_1.length < 3518437208883 then (redactorref14_Parse.l0 kj17 l0 a2 a3 (x12_1 ++ [(⟨2, ([] : List Int), wrap64 (wrap32 ((rd l0 (ji15)) - 48))⟩ : S49)]) (wrap64 (x13_1 + 2))) else (none))) = some (r1, r2, r3, r4) := by rw [if_pos rfl] at H; exact H
                              clear H
                              have H := H1
                              clear H1
                              by_cases c22 : (wrap64 (wrap32 ((rd l0 (ji15)) - 48))) > a3
                              · rw [if_pos c22] at H
                                have c22b0 : decide (a3 < (wrap64 (wrap32 ((rd l0 (ji15)) - 48)))) = true := decide_eq_true c22
                                clear c22
                                simp only [Option.some.injEq, Prod.mk.injEq] at H
                                obtain ⟨rfl, rfl, rfl, rfl⟩ := H
                                go_wp2
                                refine bodyPost_ret (results_list (rs := [.tmp 8, .tmp 9, .tmp 10, .tmp 11]) rfl (by simp) (.tmp (.tmp (.tmp (.tmp .nil))))) rfl ?_
                                exact ⟨_, by first | rfl | (simp [errW_none, errW_some] <;> rfl) | (simp only [← hji5, ← hji15]; first | rfl | (simp [errW_none, errW_some] <;> rfl)) | (simp [*, errW_none, errW_some] <;> rfl), by first | exact Kd.S_nil _ _ _ _ _ | exact Kd.N_nil _ _ _ _ _ | exact Kd.V_nil _ _ _ _ _ | exact Kd.Q_nil _ _ _ _ _ | exact Kd.R_nil _ _ _ _ _, by repeat (first | (with_reducible first | exact HB.out | apply below_alloc | apply pw_below_drewN | apply below_drew1) | exact HB.out)⟩
                              · rw [if_neg c22] at H
                                have c22b0 : decide (a3 < (wrap64 (wrap32 ((rd l0 (ji15)) - 48)))) = false := decide_eq_false c22
                                clear c22
                                by_cases c23 : x12_1.length < 3518437208883
                                · rw [if_pos c23] at H
                                  have LMc23 := Aside0.mk c23
                                  clear c23
                                  obtain ⟨y338, hy338⟩ : ∃ y_ : List (S49), y_ = (x12_1 ++ [(⟨2, ([] : List Int), wrap64 (wrap32 ((rd l0 (ji15)) - 48))⟩ : S49)]) := ⟨_, rfl⟩
                                  replace H : (redactorref14_Parse.l0 kj17 l0 a2 a3 y338 (wrap64 (x13_1 + 2))) = some (r1, r2, r3, r4) := by first | (rw [hy338]; with_reducible exact H) | (have H2_ := (Option.bind_some _ _).symm.trans H; rw [hy338]; with_reducible exact H2_) | (have H2_ := (Option.bind_some _ _).symm.trans H; with_reducible exact H2_) | with_reducible exact H | (rw [hy338]; exact H) | exact H
                                  have Ny338 := Aside0.mk hy338
                                  clear hy338
                                  have H' := Aside0.mk H
                                  clear H
                                  go_wp2_with (first | ((with_reducible refine gate_builtin (b := .append) (xs := #[.tmp 79, .tmp 84]) rfl ?_); at_builtin; refine Kd.N_append k49 (w0 := w) w.heap.size rfl (.tmp 79) (.tmp 84) 38 49 (.agg #[(.int .u8 0), (.slice none 0 0), (.int .i64 0)]) 40 rfl Try.underlying38 info49 rfl (by decide) (by omega) u12 x12_1 (⟨2, ([] : List Int), wrap64 (wrap32 ((rd l0 (ji15)) - 48))⟩ : S49) [.int .u8 2, .slice none 0 0, .int .i64 (wrap64 (wrap32 ((rd l0 (ji15)) - 48)))] (fun k_ => (w.heap.size ≤ k_)) (fun k_ => ((fun k_ => (w.heap.size ≤ k_))) k_ ∧ some k_ ≠ (u12 : Value).ownBlock) rfl rfl ?aP (fun _ hk => hk) ?aF ?aO ?aB ?aS ?aL ?_; (case aP => exact (k49_mkF _ _ (⟨2, ([] : List Int), wrap64 (wrap32 ((rd l0 (ji15)) - 48))⟩ : S49) (Nat.le_refl _) (Kd.F_nil _ _ _))); (case aB => exact (by repeat (first | (with_reducible first | exact HB.out | apply below_alloc | apply pw_below_drewN | apply below_drew1) | exact HB.out))); (case aF => exact (fun k_ hk => (Nat.le_trans (below_size (by repeat (first | (with_reducible first | exact HB.out | apply below_alloc | apply pw_below_drewN | apply below_drew1) | exact HB.out))) hk))); (case aO => exact (by (with_reducible repeat (first | apply Kd.N_alloc | apply Kd.N_drewN | apply Kd.N_drew)); exact HO_12.out)); (case aS => exact (below_size (by repeat (first | (with_reducible first | exact HB.out | apply below_alloc | apply pw_below_drewN | apply below_drew1) | exact HB.out)))); (case aL => have := LMc23.out; omega); intro v339 w24 ho hb hg hat; rw [← Ny338.out] at ho; have n0_ := Aside0.mk (hb); have n1_ := Aside0.mk (ho); clear HB; clear HO_12; have HB := n0_; have HO340 := n1_; clear n0_ n1_; clear ho hb hg hat))
                                  go_roundg kj17
                                  case measure => have := HK1.out; have := HJ17.out; omega
                                  case rel => exact ⟨(y338), (wrap64 (x13_1 + 2)), (by first | rfl | (simp; done) | (simp [*]; done)), H', ⟨by have := HK1.out; have := HJ17.out; omega⟩, ⟨by (with_reducible repeat (first | apply Kd.N_alloc | apply Kd.N_drewN | apply Kd.N_drew)); exact HO340.out⟩, ⟨by repeat (first | (with_reducible first | exact HB.out | apply below_alloc | apply pw_below_drewN | apply below_drew1) | exact HB.out)⟩⟩
                                · rw [if_neg c23] at H
                                  exact absurd H (by simp)
                            · replace c21 := Bool.eq_false_iff.mpr c21
                              subst c21
                              have H1 : (if (rd l0 (ji15)) = 110 then (if a2 = 110 then ((redactorref14_put.f x12_1 (rd l0 (ji15))).bind fun t341 => (redactorref14_Parse.l0 kj17 l0 a2 a3 t341 (wrap64 (x13_1 + 2)))) else ((redactorref14_put.f x12_1 10).bind fun t344 => (redactorref14_Parse.l0 kj17 l0 a2 a3 t344 (wrap64 (x13_1 + 2))))) else ((redactorref14_put.f x12_1 (rd l0 (ji15))).bind fun t347 => (redactorref14_Parse.l0 kj17 l0 a2 a3 t347 (wrap64 (x13_1 + 2))))) = some (r1, r2, r3, r4) := by rw [if_neg (show ¬ (false = true) by decide)] at H; exact H
                              clear H
                              have H := H1
                              clear H1
                              by_cases c25 : (rd l0 (ji15)) = 110
                              · rw [if_pos c25] at H
                                have c25b0 : ((rd l0 (ji15)) == 110) = true := beq_iff_eq.mpr c25
                                have c25b1 : ((rd l0 (ji15)) != 110) = false := bne_eq_false_iff_eq.mpr c25
                                clear c25
                                by_cases c26 : a2 = 110
                                · rw [if_pos c26] at H
                                  have c26b0 : (a2 == 110) = true := beq_iff_eq.mpr c26
                                  have c26b1 : (a2 != 110) = false := bne_eq_false_iff_eq.mpr c26
                                  clear c26
                                  replace H := Option.bind_eq_some_iff.mp H
                                  obtain ⟨t341, A270, H⟩ := H
                                  replace H : (redactorref14_Parse.l0 kj17 l0 a2 a3 t341 (wrap64 (x13_1 + 2))) = some (r1, r2, r3, r4) := H
                                  have A27 := Aside0.mk A270
                                  clear A270
                                  have H' := Aside0.mk H
                                  clear H
                                  obtain ⟨Ao28, co28, eo28⟩ := Kd.N_slice HO_12.out
                                  subst eo28
                                  go_wp2_with (first | ((with_reducible refine gate_callee (f := 26) rfl ?_); refine goesL_ (some 96) rfl rfl Try.func26 (by kernel_rfl) rfl #[.slice Ao28 x12_1.length co28, .int .i32 (rd l0 (ji15))] rfl (by (try simp only [List.map_toArray, List.map_cons, List.map_nil]); first | done | (simp only [hji15]; rfl) | rfl | (simp only [List.length_drop, List.length_take]; rfl)) ?_; (with_reducible refine (redactorref14_put.calls (fun k_ => (w.heap.size ≤ k_)) _ _ x12_1 (rd l0 (ji15)) t341 _ ?side1 A27.out).mono ?_); (case side1 => exact Kd.N_V (HO_12.out)); rintro e w29 ⟨v342, rfl, ho0, hb⟩; refine ⟨_, rfl, ?_⟩; have n0_ := Aside0.mk (Kd.N_elder' (by (with_reducible repeat (first | apply Kd.N_alloc | apply Kd.N_drewN | apply Kd.N_drew)); exact HO_12.out) (by first | exact Kd.N_base ho0 | exact Kd.N_base (Kd.S_N ho0)) hb); have n1_ := Aside0.mk (Kd.N_lower (Kd.N_mono (ok' := fun k_ => (w.heap.size ≤ k_)) ho0 (fun k_ hk_ => Or.elim hk_ (fun hs_ => hs_) (fun hn_ => (Nat.le_trans (below_size (by repeat (first | (with_reducible first | exact HB.out | apply below_alloc | apply pw_below_drewN | apply below_drew1) | exact HB.out))) hn_)))) (below_size (by repeat (first | (with_reducible first | exact HB.out | apply below_alloc | apply pw_below_drewN | apply below_drew1) | exact HB.out)))); have n2_ := Aside0.mk (below_step (by repeat (first | (with_reducible first | exact HB.out | apply below_alloc | apply pw_below_drewN | apply below_drew1) | exact HB.out)) hb); clear HO_12; clear HB; have HO_12 := n0_; have HO343 := n1_; have HB := n2_; clear n0_ n1_ n2_; (try clear hb); (try clear hb2); (try clear hk); (try clear hi); (try clear ho0)))
                                  go_roundg kj17
                                  case measure => have := HK1.out; have := HJ17.out; omega
                                  case rel => exact ⟨(t341), (wrap64 (x13_1 + 2)), (by first | rfl | (simp; done) | (simp [*]; done)), H', ⟨by have := HK1.out; have := HJ17.out; omega⟩, ⟨by (with_reducible repeat (first | apply Kd.N_alloc | apply Kd.N_drewN | apply Kd.N_drew)); exact HO343.out⟩, ⟨by repeat (first | (with_reducible first | exact HB.out | apply below_alloc | apply pw_below_drewN | apply below_drew1) | exact HB.out)⟩⟩
                                · rw [if_neg c26] at H
                                  have c26b0 : (a2 == 110) = false := beq_eq_false_iff_ne.mpr c26
                                  have c26b1 : (a2 != 110) = true := bne_iff_ne.mpr c26
                                  replace H := Option.bind_eq_some_iff.mp H
                                  obtain ⟨t344, A300, H⟩ := H
                                  replace H : (redactorref14_Parse.l0 kj17 l0 a2 a3 t344 (wrap64 (x13_1 + 2))) = some (r1, r2, r3, r4) := H
                                  have A30 := Aside0.mk A300
                                  clear A300
                                  have H' := Aside0.mk H
                                  clear H
                                  obtain ⟨Ao31, co31, eo31⟩ := Kd.N_slice HO_12.out
                                  subst eo31
                                  go_wp2_with (first | ((with_reducible refine gate_callee (f := 26) rfl ?_); refine goesL_ (some 96) rfl rfl Try.func26 (by kernel_rfl) rfl #[.slice Ao31 x12_1.length co31, .int .i32 10] rfl (by (try simp only [List.map_toArray, List.map_cons, List.map_nil]); first | done | rfl | (simp only [List.length_drop, List.length_take]; rfl)) ?_; (with_reducible refine (redactorref14_put.calls (fun k_ => (w.heap.size ≤ k_)) _ _ x12_1 10 t344 _ ?side1 A30.out).mono ?_); (case side1 => exact Kd.N_V (HO_12.out)); rintro e w32 ⟨v345, rfl, ho0, hb⟩; refine ⟨_, rfl, ?_⟩; have n0_ := Aside0.mk (Kd.N_elder' (by (with_reducible repeat (first | apply Kd.N_alloc | apply Kd.N_drewN | apply Kd.N_drew)); exact HO_12.out) (by first | exact Kd.N_base ho0 | exact Kd.N_base (Kd.S_N ho0)) hb); have n1_ := Aside0.mk (Kd.N_lower (Kd.N_mono (ok' := fun k_ => (w.heap.size ≤ k_)) ho0 (fun k_ hk_ => Or.elim hk_ (fun hs_ => hs_) (fun hn_ => (Nat.le_trans (below_size (by repeat (first | (with_reducible first | exact HB.out | apply below_alloc | apply pw_below_drewN | apply below_drew1) | exact HB.out))) hn_)))) (below_size (by repeat (first | (with_reducible first | exact HB.out | apply below_alloc | apply pw_below_drewN | apply below_drew1) | exact HB.out)))); have n2_ := Aside0.mk (below_step (by repeat (first | (with_reducible first | exact HB.out | apply below_alloc | apply pw_below_drewN | apply below_drew1) | exact HB.out)) hb); clear HO_12; clear HB; have HO_12 := n0_; have HO346 := n1_; have HB := n2_; clear n0_ n1_ n2_; (try clear hb); (try clear hb2); (try clear hk); (try clear hi); (try clear ho0)))
                                  go_roundg kj17
                                  case measure => have := HK1.out; have := HJ17.out; omega
                                  case rel => exact ⟨(t344), (wrap64 (x13_1 + 2)), (by first | rfl | (simp; done) | (simp [*]; done)), H', ⟨by have := HK1.out; have := HJ17.out; omega⟩, ⟨by (with_reducible repeat (first | apply Kd.N_alloc | apply Kd.N_drewN | apply Kd.N_drew)); exact HO346.out⟩, ⟨by repeat (first | (with_reducible first | exact HB.out | apply below_alloc | apply pw_below_drewN | apply below_drew1) | exact HB.out)⟩⟩
                              · rw [if_neg c25] at H
                                have c25b0 : ((rd l0 (ji15)) == 110) = false := beq_eq_false_iff_ne.mpr c25
                                have c25b1 : ((rd l0 (ji15)) != 110) = true := bne_iff_ne.mpr c25
                                replace H := Option.bind_eq_some_iff.mp H
                                obtain ⟨t347, A330, H⟩ := H
                                replace H : (redactorref14_Parse.l0 kj17 l0 a2 a3 t347 (wrap64 (x13_1 + 2))) = some (r1, r2, r3, r4) := H
                                have A33 := Aside0.mk A330
                                clear A330
                                have H' := Aside0.mk H
                                clear H
                                obtain ⟨Ao34, co34, eo34⟩ := Kd.N_slice HO_12.out
                                subst eo34
                                go_wp2_with (first | ((with_reducible refine gate_callee (f := 26) rfl ?_); refine goesL_ (some 96) rfl rfl Try.func26 (by kernel_rfl) rfl #[.slice Ao34 x12_1.length co34, .int .i32 (rd l0 (ji15))] rfl (by (try simp only [List.map_toArray, List.map_cons, List.map_nil]); first | done | (simp only [hji15]; rfl) | rfl | (simp only [List.length_drop, List.length_take]; rfl)) ?_; (with_reducible refine (redactorref14_put.calls (fun k_ => (w.heap.size ≤ k_)) _ _ x12_1 (rd l0 (ji15)) t347 _ ?side1 A33.out).mono ?_); (case side1 => exact Kd.N_V (HO_12.out)); rintro e w35 ⟨v348, rfl, ho0, hb⟩; refine ⟨_, rfl, ?_⟩; have n0_ := Aside0.mk (Kd.N_elder' (by (with_reducible repeat (first | apply Kd.N_alloc | apply Kd.N_drewN | apply Kd.N_drew)); exact HO_12.out) (by first | exact Kd.N_base ho0 | exact Kd.N_base (Kd.S_N ho0)) hb); have n1_ := Aside0.mk (Kd.N_lower (Kd.N_mono (ok' := fun k_ => (w.heap.size ≤ k_)) ho0 (fun k_ hk_ => Or.elim hk_ (fun hs_ => hs_) (fun hn_ => (Nat.le_trans (below_size (by repeat (first | (with_reducible first | exact HB.out | apply below_alloc | apply pw_below_drewN | apply below_drew1) | exact HB.out))) hn_)))) (below_size (by repeat (first | (with_reducible first | exact HB.out | apply below_alloc | apply pw_below_drewN | apply below_drew1) | exact HB.out)))); have n2_ := Aside0.mk (below_step (by repeat (first | (with_reducible first | exact HB.out | apply below_alloc | apply pw_below_drewN | apply below_drew1) | exact HB.out)) hb); clear HO_12; clear HB; have HO_12 := n0_; have HO349 := n1_; have HB := n2_; clear n0_ n1_ n2_; (try clear hb); (try clear hb2); (try clear hk); (try clear hi); (try clear ho0)))
                                go_roundg kj17
                                case measure => have := HK1.out; have := HJ17.out; omega
                                case rel => exact ⟨(t347), (wrap64 (x13_1 + 2)), (by first | rfl | (simp; done) | (simp [*]; done)), H', ⟨by have := HK1.out; have := HJ17.out; omega⟩, ⟨by (with_reducible repeat (first | apply Kd.N_alloc | apply Kd.N_drewN | apply Kd.N_drew)); exact HO349.out⟩, ⟨by repeat (first | (with_reducible first | exact HB.out | apply below_alloc | apply pw_below_drewN | apply below_drew1) | exact HB.out)⟩⟩
                      · rw [if_neg c17] at H
                        exact absurd H (by simp)
                    · rw [if_neg c16] at H
                      exact absurd H (by simp)
                · rw [if_neg c13] at H
                  have c13b0 : ((rd l0 x13_1) == 92) = false := beq_eq_false_iff_ne.mpr c13
                  have c13b1 : ((rd l0 x13_1) != 92) = true := bne_iff_ne.mpr c13
                  replace H := Option.bind_eq_some_iff.mp H
                  obtain ⟨t334, A360, H⟩ := H
                  replace H : (redactorref14_Parse.l0 k1 l0 a2 a3 t334 (wrap64 (x13_1 + 1))) = some (r1, r2, r3, r4) := H
                  have A36 := Aside0.mk A360
                  clear A360
                  have H' := Aside0.mk H
                  clear H
                  have p330 : 0 ≤ (x13_1 : Int) := of_decide_eq_true (by first | (with_reducible assumption) | assumption)
                  have q330 : x13_1 < (l0.length : Int) := of_decide_eq_true (by first | (with_reducible assumption) | assumption)
                  obtain ⟨ad330, e330, hx330_0⟩ := Kd.at_int HR0.out x13_1 p330 q330
                  cases e330
                  replace hx330_0 := (HB.out.cell (World.block_lt_of_cell? w _ hx330_0)).trans hx330_0
                  replace p330 := eq_true p330
                  replace q330 := eq_true q330
                  obtain ⟨Ao37, co37, eo37⟩ := Kd.N_slice HO_12.out
                  subst eo37
                  go_wp2_with (first | ((with_reducible refine gate_callee (f := 26) rfl ?_); refine goesL_ (some 47) rfl rfl Try.func26 (by kernel_rfl) rfl #[.slice Ao37 x12_1.length co37, .int .i32 (rd l0 x13_1)] rfl (by (try simp only [List.map_toArray, List.map_cons, List.map_nil]); first | done | rfl | (simp only [List.length_drop, List.length_take]; rfl)) ?_; (with_reducible refine (redactorref14_put.calls (fun k_ => (w.heap.size ≤ k_)) _ _ x12_1 (rd l0 x13_1) t334 _ ?side1 A36.out).mono ?_); (case side1 => exact Kd.N_V (HO_12.out)); rintro e w38 ⟨v335, rfl, ho0, hb⟩; refine ⟨_, rfl, ?_⟩; have n0_ := Aside0.mk (Kd.N_elder' (by (with_reducible repeat (first | apply Kd.N_alloc | apply Kd.N_drewN | apply Kd.N_drew)); exact HO_12.out) (by first | exact Kd.N_base ho0 | exact Kd.N_base (Kd.S_N ho0)) hb); have n1_ := Aside0.mk (Kd.N_lower (Kd.N_mono (ok' := fun k_ => (w.heap.size ≤ k_)) ho0 (fun k_ hk_ => Or.elim hk_ (fun hs_ => hs_) (fun hn_ => (Nat.le_trans (below_size (by repeat (first | (with_reducible first | exact HB.out | apply below_alloc | apply pw_below_drewN | apply below_drew1) | exact HB.out))) hn_)))) (below_size (by repeat (first | (with_reducible first | exact HB.out | apply below_alloc | apply pw_below_drewN | apply below_drew1) | exact HB.out)))); have n2_ := Aside0.mk (below_step (by repeat (first | (with_reducible first | exact HB.out | apply below_alloc | apply pw_below_drewN | apply below_drew1) | exact HB.out)) hb); clear HO_12; clear HB; have HO_12 := n0_; have HO336 := n1_; have HB := n2_; clear n0_ n1_ n2_; (try clear hb); (try clear hb2); (try clear hk); (try clear hi); (try clear ho0)))
                  go_roundg k1
                  case measure => have := HK1.out; omega
                  case rel => exact ⟨(t334), (wrap64 (x13_1 + 1)), (by first | rfl | (simp; done) | (simp [*]; done)), H', ⟨by have := HK1.out; omega⟩, ⟨by (with_reducible repeat (first | apply Kd.N_alloc | apply Kd.N_drewN | apply Kd.N_drew)); exact HO336.out⟩, ⟨by repeat (first | (with_reducible first | exact HB.out | apply below_alloc | apply pw_below_drewN | apply below_drew1) | exact HB.out)⟩⟩
        · rw [if_neg c7] at H
          exact absurd H (by simp)
      · rw [if_neg c6] at H
        have c6b0 : decide (x13_1 < (l0.length : Int)) = false := decide_eq_false c6
        clear c6
        simp only [Option.some.injEq, Prod.mk.injEq] at H
        obtain ⟨rfl, rfl, rfl, rfl⟩ := H
        go_wp2
        refine bodyPost_ret (results_list (rs := [.tmp 8, .tmp 9, .tmp 10, .tmp 11]) rfl (by simp) (.tmp (.tmp (.tmp (.tmp .nil))))) rfl ?_
        exact ⟨_, by first | rfl | (simp [errW_none, errW_some] <;> rfl) | (simp only [← hji5]; first | rfl | (simp [errW_none, errW_some] <;> rfl)) | (simp [*, errW_none, errW_some] <;> rfl), by first | exact Kd.S_nil _ _ _ _ _ | exact Kd.N_nil _ _ _ _ _ | exact Kd.V_nil _ _ _ _ _ | exact Kd.Q_nil _ _ _ _ _ | exact Kd.R_nil _ _ _ _ _, by repeat (first | (with_reducible first | exact HB.out | apply below_alloc | apply pw_below_drewN | apply below_drew1) | exact HB.out)⟩

/-! ### redactorlaw14_Text: function 18 -/
mutual
def redactorlaw14_Text.l0 : Nat → List Int → List ByteArray → ByteArray → Int → Option (List Int)
  | 0, _, _, _, _ => none
  | k + 1, x0, x3, x4, x5 => if x5 < (x0.length : Int) then (redactorlaw14_Text.j1 k x0 x3 x4 x5 (decide (x5 < 12))) else (redactorlaw14_Text.j1 k x0 x3 x4 x5 false)
def redactorlaw14_Text.j1 : Nat → List Int → List ByteArray → ByteArray → Int → Bool → Option (List Int)
  | 0, _, _, _, _, _ => none
  | k + 1, x0, x3, x4, x5, x15 => if x15 = true then (if 0 ≤ x5 then (if x5 < (x0.length : Int) then (if (wrap64 (rd x0 x5)) > 215 then (if 0 ≤ (wrap64 (10 + (Int.tmod (wrap64 (rd x0 x5)) 9))) then (if (wrap64 (10 + (Int.tmod (wrap64 (rd x0 x5)) 9))) < (x3.length : Int) then (if x4.size + (rdOf ByteArray.empty x3 (wrap64 (10 + (Int.tmod (wrap64 (rd x0 x5)) 9)))).size ≤ 9223372036854775807 then (redactorlaw14_Text.l0 k x0 x3 (x4 ++ (rdOf ByteArray.empty x3 (wrap64 (10 + (Int.tmod (wrap64 (rd x0 x5)) 9))))) (wrap64 (x5 + 1))) else (none)) else (none)) else (none)) else (if 0 ≤ (Int.tmod (wrap64 (rd x0 x5)) 10) then (if (Int.tmod (wrap64 (rd x0 x5)) 10) < (x3.length : Int) then (if x4.size + (rdOf ByteArray.empty x3 (Int.tmod (wrap64 (rd x0 x5)) 10)).size ≤ 9223372036854775807 then (redactorlaw14_Text.l0 k x0 x3 (x4 ++ (rdOf ByteArray.empty x3 (Int.tmod (wrap64 (rd x0 x5)) 10))) (wrap64 (x5 + 1))) else (none)) else (none)) else (none))) else (none)) else (none)) else ((redactorref01_Of.f k x4).bind fun t356 => (some t356))
end
def redactorlaw14_Text.f (k : Nat) (l0 : List Int) : Option (List Int) := redactorlaw14_Text.l0 k l0 (([(⟨#[97]⟩ : ByteArray), (⟨#[98]⟩ : ByteArray), (⟨#[38]⟩ : ByteArray), (⟨#[92, 49]⟩ : ByteArray), (⟨#[92, 48]⟩ : ByteArray), (⟨#[92, 110]⟩ : ByteArray), (⟨#[92, 38]⟩ : ByteArray), (⟨#[92, 92]⟩ : ByteArray), (⟨#[99]⟩ : ByteArray), (⟨#[195, 169]⟩ : ByteArray), (⟨#[47]⟩ : ByteArray), (⟨#[92, 47]⟩ : ByteArray), (⟨#[92, 120]⟩ : ByteArray), (⟨#[92, 57]⟩ : ByteArray), (⟨#[10]⟩ : ByteArray), (⟨#[92]⟩ : ByteArray), (⟨#[92, 10]⟩ : ByteArray), (⟨#[49]⟩ : ByteArray), (⟨#[110]⟩ : ByteArray)] : List ByteArray)) (⟨#[]⟩ : ByteArray) 0
theorem redactorlaw14_Text.mono_l : ∀ k, (∀ y0 y1 y2 y3, LeO (redactorlaw14_Text.l0 k y0 y1 y2 y3) (redactorlaw14_Text.l0 (k + 1) y0 y1 y2 y3)) ∧ (∀ y0 y1 y2 y3 y4, LeO (redactorlaw14_Text.j1 k y0 y1 y2 y3 y4) (redactorlaw14_Text.j1 (k + 1) y0 y1 y2 y3 y4))
  | 0 => ⟨fun _ _ _ _ r h => by simp [redactorlaw14_Text.l0] at h, fun _ _ _ _ _ r h => by simp [redactorlaw14_Text.j1] at h⟩
  | k + 1 => by
    obtain ⟨ih0, ih1⟩ := redactorlaw14_Text.mono_l k
    refine ⟨?_, ?_⟩
    · intro y0 y1 y2 y3
      unfold redactorlaw14_Text.l0
      repeat' first
      | (with_reducible exact ih0 _ _ _ _)
      | (with_reducible exact ih1 _ _ _ _ _)
      | (with_reducible exact redactorref01_Of.mono _ _)
      | (with_reducible exact LeO.refl _)
      | (with_reducible exact LeO.none _)
      | (with_reducible refine LeO.ite ?_ ?_)
      | (with_reducible refine LeO.bind ?_ (fun _ => ?_))
      | exact ih0 _ _ _ _
      | exact ih1 _ _ _ _ _
      | exact redactorref01_Of.mono _ _
      | exact LeO.none _
      | refine LeO.ite ?_ ?_
      | refine LeO.bind ?_ (fun _ => ?_)
    · intro y0 y1 y2 y3 y4
      unfold redactorlaw14_Text.j1
      repeat' first
      | (with_reducible exact ih0 _ _ _ _)
      | (with_reducible exact ih1 _ _ _ _ _)
      | (with_reducible exact redactorref01_Of.mono _ _)
      | (with_reducible exact LeO.refl _)
      | (with_reducible exact LeO.none _)
      | (with_reducible refine LeO.ite ?_ ?_)
      | (with_reducible refine LeO.bind ?_ (fun _ => ?_))
      | exact ih0 _ _ _ _
      | exact ih1 _ _ _ _ _
      | exact redactorref01_Of.mono _ _
      | exact LeO.none _
      | refine LeO.ite ?_ ?_
      | refine LeO.bind ?_ (fun _ => ?_)
theorem redactorlaw14_Text.mono : ∀ a0 k, LeO (redactorlaw14_Text.f k a0) (redactorlaw14_Text.f (k + 1) a0) := by
  intro a0 k
  obtain ⟨ih0, ih1⟩ := redactorlaw14_Text.mono_l k
  unfold redactorlaw14_Text.f
  repeat' first
      | (with_reducible exact ih0 _ _ _ _)
      | (with_reducible exact ih1 _ _ _ _ _)
      | (with_reducible exact redactorref01_Of.mono _ _)
      | (with_reducible exact LeO.refl _)
      | (with_reducible exact LeO.none _)
      | (with_reducible refine LeO.ite ?_ ?_)
      | (with_reducible refine LeO.bind ?_ (fun _ => ?_))
      | exact ih0 _ _ _ _
      | exact ih1 _ _ _ _ _
      | exact redactorref01_Of.mono _ _
      | exact LeO.none _
      | refine LeO.ite ?_ ?_
      | refine LeO.bind ?_ (fun _ => ?_)
set_option maxHeartbeats 8000000 in
set_option maxRecDepth 100000 in
theorem redactorlaw14_Text.calls (k : Nat) (A0 : Option Addr) (c0 : Nat) (l0 : List Int) (r : List Int) (w : World) (hr0 : Kd.C (Kd.int .u8) w A0 l0.length l0) (hc0 : l0.length ≤ c0) (h : redactorlaw14_Text.f k l0 = some r) :
    Calls Try.prog 18 #[.slice A0 l0.length c0] w fun e w' => ∃ v0_ : Value, e = .returned (v0_) ∧ Kd.R (Kd.int .i32) 24 w' w.heap.size (fun _ => True) v0_ r ∧ Below w.heap.size w w' := by
  have HR0 := Aside0.mk hr0
  have HC0 := Aside0.mk hc0
  clear hr0 hc0
  have HB := Aside0.mk (Below.refl w.heap.size w)
  have H : (redactorlaw14_Text.l0 k l0 (([(⟨#[97]⟩ : ByteArray), (⟨#[98]⟩ : ByteArray), (⟨#[38]⟩ : ByteArray), (⟨#[92, 49]⟩ : ByteArray), (⟨#[92, 48]⟩ : ByteArray), (⟨#[92, 110]⟩ : ByteArray), (⟨#[92, 38]⟩ : ByteArray), (⟨#[92, 92]⟩ : ByteArray), (⟨#[99]⟩ : ByteArray), (⟨#[195, 169]⟩ : ByteArray), (⟨#[47]⟩ : ByteArray), (⟨#[92, 47]⟩ : ByteArray), (⟨#[92, 120]⟩ : ByteArray), (⟨#[92, 57]⟩ : ByteArray), (⟨#[10]⟩ : ByteArray), (⟨#[92]⟩ : ByteArray), (⟨#[92, 10]⟩ : ByteArray), (⟨#[49]⟩ : ByteArray), (⟨#[110]⟩ : ByteArray)] : List ByteArray)) (⟨#[]⟩ : ByteArray) 0) = some r := h
  clear h
  obtain ⟨y350, hy350⟩ : ∃ y_ : List ByteArray, y_ = (([(⟨#[97]⟩ : ByteArray), (⟨#[98]⟩ : ByteArray), (⟨#[38]⟩ : ByteArray), (⟨#[92, 49]⟩ : ByteArray), (⟨#[92, 48]⟩ : ByteArray), (⟨#[92, 110]⟩ : ByteArray), (⟨#[92, 38]⟩ : ByteArray), (⟨#[92, 92]⟩ : ByteArray), (⟨#[99]⟩ : ByteArray), (⟨#[195, 169]⟩ : ByteArray), (⟨#[47]⟩ : ByteArray), (⟨#[92, 47]⟩ : ByteArray), (⟨#[92, 120]⟩ : ByteArray), (⟨#[92, 57]⟩ : ByteArray), (⟨#[10]⟩ : ByteArray), (⟨#[92]⟩ : ByteArray), (⟨#[92, 10]⟩ : ByteArray), (⟨#[49]⟩ : ByteArray), (⟨#[110]⟩ : ByteArray)] : List ByteArray)) := ⟨_, rfl⟩
  replace H : (redactorlaw14_Text.l0 k l0 y350 (⟨#[]⟩ : ByteArray) 0) = some r := by first | (rw [hy350]; with_reducible exact H) | (have H2_ := (Option.bind_some _ _).symm.trans H; rw [hy350]; with_reducible exact H2_) | (have H2_ := (Option.bind_some _ _).symm.trans H; with_reducible exact H2_) | with_reducible exact H | (rw [hy350]; exact H) | exact H
  have Ny350 := Aside0.mk hy350
  clear hy350
  have H' := Aside0.mk H
  clear H
  go_enter Try.func18, Try.ntmps18
  go_wp2_with (first | ((with_reducible refine gate_dst (N := 7) rfl ?_); refine Kd.R_lit Kd.string _ 9 ?hg (N := 7) ?hd (xs := ([(⟨#[97]⟩ : ByteArray), (⟨#[98]⟩ : ByteArray), (⟨#[38]⟩ : ByteArray), (⟨#[92, 49]⟩ : ByteArray), (⟨#[92, 48]⟩ : ByteArray), (⟨#[92, 110]⟩ : ByteArray), (⟨#[92, 38]⟩ : ByteArray), (⟨#[92, 92]⟩ : ByteArray), (⟨#[99]⟩ : ByteArray), (⟨#[195, 169]⟩ : ByteArray), (⟨#[47]⟩ : ByteArray), (⟨#[92, 47]⟩ : ByteArray), (⟨#[92, 120]⟩ : ByteArray), (⟨#[92, 57]⟩ : ByteArray), (⟨#[10]⟩ : ByteArray), (⟨#[92]⟩ : ByteArray), (⟨#[92, 10]⟩ : ByteArray), (⟨#[49]⟩ : ByteArray), (⟨#[110]⟩ : ByteArray)] : List ByteArray)) (inner := [.string (⟨#[97]⟩ : ByteArray), .string (⟨#[98]⟩ : ByteArray), .string (⟨#[38]⟩ : ByteArray), .string (⟨#[92, 49]⟩ : ByteArray), .string (⟨#[92, 48]⟩ : ByteArray), .string (⟨#[92, 110]⟩ : ByteArray), .string (⟨#[92, 38]⟩ : ByteArray), .string (⟨#[92, 92]⟩ : ByteArray), .string (⟨#[99]⟩ : ByteArray), .string (⟨#[195, 169]⟩ : ByteArray), .string (⟨#[47]⟩ : ByteArray), .string (⟨#[92, 47]⟩ : ByteArray), .string (⟨#[92, 120]⟩ : ByteArray), .string (⟨#[92, 57]⟩ : ByteArray), .string (⟨#[10]⟩ : ByteArray), .string (⟨#[92]⟩ : ByteArray), .string (⟨#[92, 10]⟩ : ByteArray), .string (⟨#[49]⟩ : ByteArray), .string (⟨#[110]⟩ : ByteArray)]) (ok := fun _ => True) (okp := fun _ => True) ?hr ?hp (fun _ hk => hk) trivial (Below.refl _ _) (Nat.le_refl _) (by simp) ?_; (case hd => rfl); (case hg => rfl); (case hr => first | (go_simp; done) | (go_simp; rfl)); (case hp => exact (Reps.one (show Kd.M Kd.string _ _ _ (⟨#[97]⟩ : ByteArray) [.string (⟨#[97]⟩ : ByteArray)] from rfl) (Reps.one (show Kd.M Kd.string _ _ _ (⟨#[98]⟩ : ByteArray) [.string (⟨#[98]⟩ : ByteArray)] from rfl) (Reps.one (show Kd.M Kd.string _ _ _ (⟨#[38]⟩ : ByteArray) [.string (⟨#[38]⟩ : ByteArray)] from rfl) (Reps.one (show Kd.M Kd.string _ _ _ (⟨#[92, 49]⟩ : ByteArray) [.string (⟨#[92, 49]⟩ : ByteArray)] from rfl) (Reps.one (show Kd.M Kd.string _ _ _ (⟨#[92, 48]⟩ : ByteArray) [.string (⟨#[92, 48]⟩ : ByteArray)] from rfl) (Reps.one (show Kd.M Kd.string _ _ _ (⟨#[92, 110]⟩ : ByteArray) [.string (⟨#[92, 110]⟩ : ByteArray)] from rfl) (Reps.one (show Kd.M Kd.string _ _ _ (⟨#[92, 38]⟩ : ByteArray) [.string (⟨#[92, 38]⟩ : ByteArray)] from rfl) (Reps.one (show Kd.M Kd.string _ _ _ (⟨#[92, 92]⟩ : ByteArray) [.string (⟨#[92, 92]⟩ : ByteArray)] from rfl) (Reps.one (show Kd.M Kd.string _ _ _ (⟨#[99]⟩ : ByteArray) [.string (⟨#[99]⟩ : ByteArray)] from rfl) (Reps.one (show Kd.M Kd.string _ _ _ (⟨#[195, 169]⟩ : ByteArray) [.string (⟨#[195, 169]⟩ : ByteArray)] from rfl) (Reps.one (show Kd.M Kd.string _ _ _ (⟨#[47]⟩ : ByteArray) [.string (⟨#[47]⟩ : ByteArray)] from rfl) (Reps.one (show Kd.M Kd.string _ _ _ (⟨#[92, 47]⟩ : ByteArray) [.string (⟨#[92, 47]⟩ : ByteArray)] from rfl) (Reps.one (show Kd.M Kd.string _ _ _ (⟨#[92, 120]⟩ : ByteArray) [.string (⟨#[92, 120]⟩ : ByteArray)] from rfl) (Reps.one (show Kd.M Kd.string _ _ _ (⟨#[92, 57]⟩ : ByteArray) [.string (⟨#[92, 57]⟩ : ByteArray)] from rfl) (Reps.one (show Kd.M Kd.string _ _ _ (⟨#[10]⟩ : ByteArray) [.string (⟨#[10]⟩ : ByteArray)] from rfl) (Reps.one (show Kd.M Kd.string _ _ _ (⟨#[92]⟩ : ByteArray) [.string (⟨#[92]⟩ : ByteArray)] from rfl) (Reps.one (show Kd.M Kd.string _ _ _ (⟨#[92, 10]⟩ : ByteArray) [.string (⟨#[92, 10]⟩ : ByteArray)] from rfl) (Reps.one (show Kd.M Kd.string _ _ _ (⟨#[49]⟩ : ByteArray) [.string (⟨#[49]⟩ : ByteArray)] from rfl) (Reps.one (show Kd.M Kd.string _ _ _ (⟨#[110]⟩ : ByteArray) [.string (⟨#[110]⟩ : ByteArray)] from rfl) (Reps.none _ _))))))))))))))))))))); intro v351 w2 ho3 hb hg_ hnew_; clear hg_ hnew_; (first | rw [← Ny350.out] at ho3 | (simp only [Int.reduceToNat] at ho3; rw [← Ny350.out] at ho3)); have n0_ := Aside0.mk (Kd.R_lower ho3 (below_size (by repeat (first | (with_reducible first | exact HB.out | apply below_alloc | apply pw_below_drewN | apply below_drew1) | exact HB.out)))); have n1_ := Aside0.mk (below_step (by repeat (first | (with_reducible first | exact HB.out | apply below_alloc | apply pw_below_drewN | apply below_drew1) | exact HB.out)) hb); clear HB; have HO352 := n0_; have HB := n1_; clear n0_ n1_; clear hb ho3))
  go_loopg [4, 5] k (fun kq v4 v5 w' => ∃ (x4_1 : ByteArray) (x5_1 : Int), v4 = .string x4_1 ∧ v5 = .int .i64 x5_1 ∧ Aside0 (redactorlaw14_Text.l0 kq l0 y350 x4_1 x5_1 = some r) ∧ Aside0 (kq ≤ k) ∧ Aside0 (Kd.R Kd.string 9 w' w.heap.size (fun _ => True) v351 y350) ∧ Aside0 (Below w.heap.size w w'))
  case atStart => exact ⟨((⟨#[]⟩ : ByteArray)), (0), (by first | rfl | (simp; done) | (simp [*]; done)), (by first | rfl | (simp; done) | (simp [*]; done)), H', ⟨Nat.le_refl _⟩, ⟨by (with_reducible repeat (first | apply Kd.R_alloc | apply Kd.R_drewN | apply Kd.R_drew)); exact HO352.out⟩, ⟨by repeat (first | (with_reducible first | exact HB.out | apply below_alloc | apply pw_below_drewN | apply below_drew1) | exact HB.out)⟩⟩
  case round =>
    clear H'
    try clear c1
    try clear p2
    obtain ⟨x4_1, x5_1, rfl, rfl, HA, HK1, HO_3, HB⟩ := hrel
    cases gk with
    | zero => exact absurd HA.out (by simp [redactorlaw14_Text.l0])
    | succ k1 =>
      have H := HA.out
      clear HA
      simp only [redactorlaw14_Text.l0] at H
      have HC4 := Aside0.mk H
      clear H
      go_upto_region 4 with (fail)
      go_cut [15] (fun v15 wc => ∃ (kq : Nat) (x15_3 : Bool), v15 = .bool x15_3 ∧ Aside0 (redactorlaw14_Text.j1 kq l0 y350 x4_1 x5_1 x15_3 = some r) ∧ Aside0 (kq ≤ k1) ∧ Aside0 (Kd.R Kd.string 9 wc w.heap.size (fun _ => True) v351 y350) ∧ Aside0 (Below w.heap.size w wc))
      case first =>
        have H := HC4.out
        clear HC4
        by_cases c5 : x5_1 < (l0.length : Int)
        · rw [if_pos c5] at H
          have c5b0 : decide (x5_1 < (l0.length : Int)) = true := decide_eq_true c5
          clear c5
          (first | rw [c5b0] | (simp only [i64_w, i32_w]; rw [c5b0]) | skip)
          have H' := Aside0.mk H
          clear H
          go_wp2
          go_meet
          case rel => exact ⟨_, (decide (x5_1 < 12)), (by first | rfl | (simp; done) | (simp [*]; done)), H', ⟨by have := HK1.out; first | omega | exact Nat.le_refl _⟩, ⟨by (with_reducible repeat (first | apply Kd.R_alloc | apply Kd.R_drewN | apply Kd.R_drew)); exact HO_3.out⟩, ⟨by repeat (first | (with_reducible first | exact HB.out | apply below_alloc | apply pw_below_drewN | apply below_drew1) | exact HB.out)⟩⟩
        · rw [if_neg c5] at H
          have c5b0 : decide (x5_1 < (l0.length : Int)) = false := decide_eq_false c5
          clear c5
          (first | rw [c5b0] | (simp only [i64_w, i32_w]; rw [c5b0]) | skip)
          have H' := Aside0.mk H
          clear H
          go_wp2
          go_meet
          case rel => exact ⟨_, (false), (by first | rfl | (simp; done) | (simp [*]; done)), H', ⟨by have := HK1.out; first | omega | exact Nat.le_refl _⟩, ⟨by (with_reducible repeat (first | apply Kd.R_alloc | apply Kd.R_drewN | apply Kd.R_drew)); exact HO_3.out⟩, ⟨by repeat (first | (with_reducible first | exact HB.out | apply below_alloc | apply pw_below_drewN | apply below_drew1) | exact HB.out)⟩⟩
      case rest =>
        clear HC4
        try clear c1
        try clear p2
        try clear c5
        try clear c5b0
        try clear p2
        obtain ⟨kq, x15_3, rfl, HA, HJ3, HO_3, HB⟩ := hcut
        cases kq with
        | zero => exact absurd HA.out (by simp [redactorlaw14_Text.j1])
        | succ kj3 =>
          have H := HA.out
          clear HA
          simp only [redactorlaw14_Text.j1] at H
          by_cases c6 : x15_3 = true
          · subst c6
            have H1 : (if 0 ≤ x5_1 then (if x5_1 < (l0.length : Int) then (if (wrap64 (rd l0 x5_1)) > 215 then (if 0 ≤ (wrap64 (10 + (Int.tmod (wrap64 (rd l0 x5_1)) 9))) then (if (wrap64 (10 + (Int.tmod (wrap64 (rd l0 x5_1)) 9))) < (y350.length : Int) then (if x4_1.size + (rdOf ByteArray.empty y350 (wrap64 (10 + (Int.tmod (wrap64 (rd l0 x5_1)) 9)))).size ≤ 9223372036854775807 then (redactorlaw14_Text.l0 kj3 l0 y350 (x4_1 ++ (rdOf ByteArray.empty y350 (wrap64 (10 + (Int.tmod (wrap64 (rd l0 x5_1)) 9))))) (wrap64 (x5_1 + 1))) else (none)) else (none)) else (none)) else (if 0 ≤ (Int.tmod (wrap64 (rd l0 x5_1)) 10) then (if (Int.tmod (wrap64 (rd l0 x5_1)) 10) < (y350.length : Int) then (if x4_1.size + (rdOf ByteArray.empty y350 (Int.tmod (wrap64 (rd l0 x5_1)) 10)).size ≤ 9223372036854775807 then (redactorlaw14_Text.l0 kj3 l0 y350 (x4_1 ++ (rdOf ByteArray.empty y350 (Int.tmod (wrap64 (rd l0 x5_1)) 10))) (wrap64 (x5_1 + 1))) else (none)) else (none)) else (none))) else (none)) else (none)) = some r := by rw [if_pos rfl] at H; exact H
            clear H
            have H := H1
            clear H1
            by_cases c7 : 0 ≤ x5_1
            · rw [if_pos c7] at H
              have c7b0 : decide (0 ≤ x5_1) = true := decide_eq_true c7
              clear c7
              by_cases c8 : x5_1 < (l0.length : Int)
              · rw [if_pos c8] at H
                have c8b0 : decide (x5_1 < (l0.length : Int)) = true := decide_eq_true c8
                clear c8
                by_cases c9 : (wrap64 (rd l0 x5_1)) > 215
                · rw [if_pos c9] at H
                  have c9b0 : decide (215 < (wrap64 (rd l0 x5_1))) = true := decide_eq_true c9
                  clear c9
                  obtain ⟨ji10, hji10⟩ : ∃ j_ : Int, (wrap64 (10 + (Int.tmod (wrap64 (rd l0 x5_1)) 9))) = j_ := ⟨_, rfl⟩
                  replace H : (if 0 ≤ (ji10) then (if (ji10) < (y350.length : Int) then (if x4_1.size + (rdOf ByteArray.empty y350 (ji10)).size ≤ 9223372036854775807 then (redactorlaw14_Text.l0 kj3 l0 y350 (x4_1 ++ (rdOf ByteArray.empty y350 (ji10))) (wrap64 (x5_1 + 1))) else (none)) else (none)) else (none)) = some r := by first | (rw [hji10] at H; exact H) | (simp only [hji10] at H ⊢; exact H)
                  have hji10w : (IntKind.i64.wrap (10 + (Int.tmod (wrap64 (rd l0 x5_1)) 9))) = ji10 := (i64_w _).trans hji10
                  by_cases c11 : 0 ≤ (ji10)
                  · rw [if_pos c11] at H
                    have c11b0 : decide (0 ≤ (ji10)) = true := decide_eq_true c11
                    clear c11
                    by_cases c12 : (ji10) < (y350.length : Int)
                    · rw [if_pos c12] at H
                      have c12b0 : decide ((ji10) < (y350.length : Int)) = true := decide_eq_true c12
                      clear c12
                      by_cases c13 : x4_1.size + (rdOf ByteArray.empty y350 (ji10)).size ≤ 9223372036854775807
                      · rw [if_pos c13] at H
                        have c13b0 := eq_true c13
                        have c13b1 : decide (x4_1.size + (rdOf ByteArray.empty y350 (ji10)).size ≤ 9223372036854775807) = true := decide_eq_true c13
                        try have c13b2 : (9223372036854775807 < x4_1.size + (rdOf ByteArray.empty y350 (ji10)).size) = False := eq_false (Nat.not_lt.2 c13)
                        have H' := Aside0.mk H
                        clear H
                        have p353 : 0 ≤ (x5_1 : Int) := of_decide_eq_true (by first | (with_reducible assumption) | assumption)
                        have q353 : x5_1 < (l0.length : Int) := of_decide_eq_true (by first | (with_reducible assumption) | assumption)
                        obtain ⟨ad353, e353, hx353_0⟩ := Kd.at_int HR0.out x5_1 p353 q353
                        cases e353
                        replace hx353_0 := (HB.out.cell (World.block_lt_of_cell? w _ hx353_0)).trans hx353_0
                        replace p353 := eq_true p353
                        replace q353 := eq_true q353
                        obtain ⟨Ao14, co14, eo14⟩ := Kd.R_slice HO_3.out
                        subst eo14
                        have p354 : 0 ≤ ((ji10) : Int) := of_decide_eq_true (by first | (with_reducible assumption) | assumption)
                        have q354 : (ji10) < (y350.length : Int) := of_decide_eq_true (by first | (with_reducible assumption) | assumption)
                        obtain ⟨ad354, e354, hx354_0⟩ := Kd.at_string (Kd.R_reads' HO_3.out).2.2 (ji10) p354 q354
                        cases e354
                        replace p354 := eq_true p354
                        replace q354 := eq_true q354
                        go_wp2
                        go_roundg kj3
                        case measure => have := HK1.out; have := HJ3.out; omega
                        case rel => exact ⟨(x4_1 ++ (rdOf ByteArray.empty y350 (ji10))), (wrap64 (x5_1 + 1)), (by first | rfl | (simp; done) | (simp only [← hji10] <;> (first | rfl | simp)) | (simp [*]; done)), (by first | rfl | (simp; done) | (simp [*]; done)), H', ⟨by have := HK1.out; have := HJ3.out; omega⟩, ⟨by (with_reducible repeat (first | apply Kd.R_alloc | apply Kd.R_drewN | apply Kd.R_drew)); exact HO_3.out⟩, ⟨by repeat (first | (with_reducible first | exact HB.out | apply below_alloc | apply pw_below_drewN | apply below_drew1) | exact HB.out)⟩⟩
                      · rw [if_neg c13] at H
                        exact absurd H (by simp)
                    · rw [if_neg c12] at H
                      exact absurd H (by simp)
                  · rw [if_neg c11] at H
                    exact absurd H (by simp)
                · rw [if_neg c9] at H
                  have c9b0 : decide (215 < (wrap64 (rd l0 x5_1))) = false := decide_eq_false c9
                  clear c9
                  obtain ⟨ji15, hji15⟩ : ∃ j_ : Int, (Int.tmod (wrap64 (rd l0 x5_1)) 10) = j_ := ⟨_, rfl⟩
                  replace H : (if 0 ≤ (ji15) then (if (ji15) < (y350.length : Int) then (if x4_1.size + (rdOf ByteArray.empty y350 (ji15)).size ≤ 9223372036854775807 then (redactorlaw14_Text.l0 kj3 l0 y350 (x4_1 ++ (rdOf ByteArray.empty y350 (ji15))) (wrap64 (x5_1 + 1))) else (none)) else (none)) else (none)) = some r := by first | (rw [hji15] at H; exact H) | (simp only [hji15] at H ⊢; exact H)
                  by_cases c16 : 0 ≤ (ji15)
                  · rw [if_pos c16] at H
                    have c16b0 : decide (0 ≤ (ji15)) = true := decide_eq_true c16
                    clear c16
                    by_cases c17 : (ji15) < (y350.length : Int)
                    · rw [if_pos c17] at H
                      have c17b0 : decide ((ji15) < (y350.length : Int)) = true := decide_eq_true c17
                      clear c17
                      by_cases c18 : x4_1.size + (rdOf ByteArray.empty y350 (ji15)).size ≤ 9223372036854775807
                      · rw [if_pos c18] at H
                        have c18b0 := eq_true c18
                        have c18b1 : decide (x4_1.size + (rdOf ByteArray.empty y350 (ji15)).size ≤ 9223372036854775807) = true := decide_eq_true c18
                        try have c18b2 : (9223372036854775807 < x4_1.size + (rdOf ByteArray.empty y350 (ji15)).size) = False := eq_false (Nat.not_lt.2 c18)
                        have H' := Aside0.mk H
                        clear H
                        have p353 : 0 ≤ (x5_1 : Int) := of_decide_eq_true (by first | (with_reducible assumption) | assumption)
                        have q353 : x5_1 < (l0.length : Int) := of_decide_eq_true (by first | (with_reducible assumption) | assumption)
                        obtain ⟨ad353, e353, hx353_0⟩ := Kd.at_int HR0.out x5_1 p353 q353
                        cases e353
                        replace hx353_0 := (HB.out.cell (World.block_lt_of_cell? w _ hx353_0)).trans hx353_0
                        replace p353 := eq_true p353
                        replace q353 := eq_true q353
                        obtain ⟨Ao19, co19, eo19⟩ := Kd.R_slice HO_3.out
                        subst eo19
                        have p355 : 0 ≤ ((ji15) : Int) := of_decide_eq_true (by first | (with_reducible assumption) | assumption)
                        have q355 : (ji15) < (y350.length : Int) := of_decide_eq_true (by first | (with_reducible assumption) | assumption)
                        obtain ⟨ad355, e355, hx355_0⟩ := Kd.at_string (Kd.R_reads' HO_3.out).2.2 (ji15) p355 q355
                        cases e355
                        replace p355 := eq_true p355
                        replace q355 := eq_true q355
                        go_wp2
                        go_roundg kj3
                        case measure => have := HK1.out; have := HJ3.out; omega
                        case rel => exact ⟨(x4_1 ++ (rdOf ByteArray.empty y350 (ji15))), (wrap64 (x5_1 + 1)), (by first | rfl | (simp; done) | (simp only [← hji15] <;> (first | rfl | simp)) | (simp [*]; done)), (by first | rfl | (simp; done) | (simp [*]; done)), H', ⟨by have := HK1.out; have := HJ3.out; omega⟩, ⟨by (with_reducible repeat (first | apply Kd.R_alloc | apply Kd.R_drewN | apply Kd.R_drew)); exact HO_3.out⟩, ⟨by repeat (first | (with_reducible first | exact HB.out | apply below_alloc | apply pw_below_drewN | apply below_drew1) | exact HB.out)⟩⟩
                      · rw [if_neg c18] at H
                        exact absurd H (by simp)
                    · rw [if_neg c17] at H
                      exact absurd H (by simp)
                  · rw [if_neg c16] at H
                    exact absurd H (by simp)
              · rw [if_neg c8] at H
                exact absurd H (by simp)
            · rw [if_neg c7] at H
              exact absurd H (by simp)
          · replace c6 := Bool.eq_false_iff.mpr c6
            subst c6
            have H1 : ((redactorref01_Of.f kj3 x4_1).bind fun t356 => (some t356)) = some r := by rw [if_neg (show ¬ (false = true) by decide)] at H; exact H
            clear H
            have H := H1
            clear H1
            replace H := Option.bind_eq_some_iff.mp H
            obtain ⟨t356, A200, H⟩ := H
            replace H : (some t356) = some r := H
            have A20 := Aside0.mk A200
            clear A200
            obtain rfl := Option.some.inj H
            go_wp2_with (first | ((with_reducible refine gate_callee (f := 15) rfl ?_); refine goesL_ (some 37) rfl rfl Try.func15 (by kernel_rfl) rfl #[.string x4_1] rfl (by (try simp only [List.map_toArray, List.map_cons, List.map_nil]); first | done | rfl | (simp only [List.length_drop, List.length_take]; rfl)) ?_; (with_reducible refine (redactorref01_Of.calls kj3 x4_1 t356 _ A20.out).mono ?_); rintro e w21 ⟨v357, rfl, ho0, hb⟩; refine ⟨_, rfl, ?_⟩; have n0_ := Aside0.mk (Kd.R_below (by (with_reducible repeat (first | apply Kd.R_alloc | apply Kd.R_drewN | apply Kd.R_drew)); exact HO_3.out) hb); have n1_ := Aside0.mk (Kd.R_lower ho0 (below_size (by repeat (first | (with_reducible first | exact HB.out | apply below_alloc | apply pw_below_drewN | apply below_drew1) | exact HB.out)))); have n2_ := Aside0.mk (below_step (by repeat (first | (with_reducible first | exact HB.out | apply below_alloc | apply pw_below_drewN | apply below_drew1) | exact HB.out)) hb); clear HO_3; clear HB; have HO_3 := n0_; have HO358 := n1_; have HB := n2_; clear n0_ n1_ n2_; (try clear hb); (try clear hb2); (try clear hk); (try clear hi); (try clear ho0)))
            go_ret
            exact ⟨_, by first | rfl | (simp [errW_none, errW_some] <;> rfl) | (simp [*, errW_none, errW_some] <;> rfl), by (with_reducible repeat (first | apply Kd.R_alloc | apply Kd.R_drewN | apply Kd.R_drew)); exact HO358.out, by repeat (first | (with_reducible first | exact HB.out | apply below_alloc | apply pw_below_drewN | apply below_drew1) | exact HB.out)⟩

end Go.Proofs.Ytfgccmgfkfhfcaa.PAll
