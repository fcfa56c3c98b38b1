/- Written for this seat by a program of this session (wip/tools/pp.py): Lean functions with the same answers as the Go functions, and the proofs that they are. Lean checks it. -/
import Derived.Test.YtfgccmgfkfhfcaaPAllx0
import Derived.Test.YtfgccmgfkfhfcaaPAllx3
import Derived.Test.YtfgccmgfkfhfcaaPAllx5
import Derived.Test.YtfgccmgfkfhfcaaExtParse
import Derived.Test.YtfgccmgfkfhfcaaExtSpell
import Derived.Test.YtfgccmgfkfhfcaaExtMap
namespace Go.Proofs.Ytfgccmgfkfhfcaa.PAll
open Go.RowKit Go.Proofs.YtfgccmgfkfhfcaaW.PrintWords Go.Proofs.YtfgccmgfkfhfcaaW.PrintLast Go.Proofs.YtfgccmgfkfhfcaaW.PrintMore
attribute [local go_sem] max2_int min2_int max_two min_two max_three min_three max_four min_four   -- for this text's walks alone
set_option linter.unusedVariables false
set_option linter.unusedSimpArgs false

/-! ### subst_Expand: function 16 -/
mutual
def subst_Expand.l0 : Nat → List Int → List (S44) → List Int → List (S49) → Int → Int → Option (List Int)
  | 0, _, _, _, _, _, _ => none
  | k + 1, x1, x2, x7, x11, x12, x13 => if x13 < x12 then (if 0 ≤ x13 then (if x13 < (x11.length : Int) then (if ((rd_T49 x11 x13).f0) = 1 then (if x7.length + ((rd_T49 x11 x13).f1).length < 35184372088832 then (subst_Expand.l0 k x1 x2 (x7 ++ ((rd_T49 x11 x13).f1)) x11 x12 (wrap64 (x13 + 1))) else (none)) else (if ((rd_T49 x11 x13).f0) = 2 then (if ((rd_T49 x11 x13).f2) ≥ 0 then (subst_Expand.j1 k x1 x2 x7 x11 x12 x13 (decide (((rd_T49 x11 x13).f2) < (x2.length : Int))) ((rd_T49 x11 x13).f0) ((rd_T49 x11 x13).f1) ((rd_T49 x11 x13).f2)) else (subst_Expand.j1 k x1 x2 x7 x11 x12 x13 false ((rd_T49 x11 x13).f0) ((rd_T49 x11 x13).f1) ((rd_T49 x11 x13).f2))) else (subst_Expand.j1 k x1 x2 x7 x11 x12 x13 false ((rd_T49 x11 x13).f0) ((rd_T49 x11 x13).f1) ((rd_T49 x11 x13).f2)))) else (none)) else (none)) else (some x7)
def subst_Expand.j1 : Nat → List Int → List (S44) → List Int → List (S49) → Int → Int → Bool → Int → List Int → Int → Option (List Int)
  | 0, _, _, _, _, _, _, _, _, _, _ => none
  | k + 1, x1, x2, x7, x11, x12, x13, x25, x236000, x236001, x236002 => if x25 = true then (if 0 ≤ x236002 then (if x236002 < (x2.length : Int) then (if ((rd_T44 x2 x236002).f0) ≥ 0 then (if ((rd_T44 x2 x236002).f0) ≤ ((rd_T44 x2 x236002).f1) then (if ((rd_T44 x2 x236002).f1) ≤ (x1.length : Int) then (if 0 ≤ ((rd_T44 x2 x236002).f0) then (if x7.length + ((x1.take (((rd_T44 x2 x236002).f1) : Int).toNat).drop (((rd_T44 x2 x236002).f0) : Int).toNat).length < 35184372088832 then (subst_Expand.l0 k x1 x2 (x7 ++ ((x1.take (((rd_T44 x2 x236002).f1) : Int).toNat).drop (((rd_T44 x2 x236002).f0) : Int).toNat)) x11 x12 (wrap64 (x13 + 1))) else (none)) else (none)) else (subst_Expand.l0 k x1 x2 x7 x11 x12 (wrap64 (x13 + 1)))) else (subst_Expand.l0 k x1 x2 x7 x11 x12 (wrap64 (x13 + 1)))) else (subst_Expand.l0 k x1 x2 x7 x11 x12 (wrap64 (x13 + 1)))) else (none)) else (none)) else (subst_Expand.l0 k x1 x2 x7 x11 x12 (wrap64 (x13 + 1)))
end
def subst_Expand.f (k : Nat) (l0 : List (S49)) (l1 : List Int) (l2 : List (S44)) : Option (List Int) := subst_Expand.l0 k l1 l2 ([] : List Int) l0 (l0.length : Int) 0
theorem subst_Expand.mono_l : ∀ k, (∀ y0 y1 y2 y3 y4 y5, LeO (subst_Expand.l0 k y0 y1 y2 y3 y4 y5) (subst_Expand.l0 (k + 1) y0 y1 y2 y3 y4 y5)) ∧ (∀ y0 y1 y2 y3 y4 y5 y6 y7 y8 y9, LeO (subst_Expand.j1 k y0 y1 y2 y3 y4 y5 y6 y7 y8 y9) (subst_Expand.j1 (k + 1) y0 y1 y2 y3 y4 y5 y6 y7 y8 y9))
  | 0 => ⟨fun _ _ _ _ _ _ r h => by simp [subst_Expand.l0] at h, fun _ _ _ _ _ _ _ _ _ _ r h => by simp [subst_Expand.j1] at h⟩
  | k + 1 => by
    obtain ⟨ih0, ih1⟩ := subst_Expand.mono_l k
    refine ⟨?_, ?_⟩
    · intro y0 y1 y2 y3 y4 y5
      unfold subst_Expand.l0
      repeat' first
      | (with_reducible exact ih0 _ _ _ _ _ _)
      | (with_reducible exact ih1 _ _ _ _ _ _ _ _ _ _)
      | (with_reducible exact LeO.refl _)
      | (with_reducible exact LeO.none _)
      | (with_reducible refine LeO.ite ?_ ?_)
      | (with_reducible refine LeO.bind ?_ (fun _ => ?_))
      | exact ih0 _ _ _ _ _ _
      | exact ih1 _ _ _ _ _ _ _ _ _ _
      | exact LeO.none _
      | refine LeO.ite ?_ ?_
      | refine LeO.bind ?_ (fun _ => ?_)
    · intro y0 y1 y2 y3 y4 y5 y6 y7 y8 y9
      unfold subst_Expand.j1
      repeat' first
      | (with_reducible exact ih0 _ _ _ _ _ _)
      | (with_reducible exact ih1 _ _ _ _ _ _ _ _ _ _)
      | (with_reducible exact LeO.refl _)
      | (with_reducible exact LeO.none _)
      | (with_reducible refine LeO.ite ?_ ?_)
      | (with_reducible refine LeO.bind ?_ (fun _ => ?_))
      | exact ih0 _ _ _ _ _ _
      | exact ih1 _ _ _ _ _ _ _ _ _ _
      | exact LeO.none _
      | refine LeO.ite ?_ ?_
      | refine LeO.bind ?_ (fun _ => ?_)
theorem subst_Expand.mono : ∀ a0 a1 a2 k, LeO (subst_Expand.f k a0 a1 a2) (subst_Expand.f (k + 1) a0 a1 a2) := by
  intro a0 a1 a2 k
  obtain ⟨ih0, ih1⟩ := subst_Expand.mono_l k
  unfold subst_Expand.f
  repeat' first
      | (with_reducible exact ih0 _ _ _ _ _ _)
      | (with_reducible exact ih1 _ _ _ _ _ _ _ _ _ _)
      | (with_reducible exact LeO.refl _)
      | (with_reducible exact LeO.none _)
      | (with_reducible refine LeO.ite ?_ ?_)
      | (with_reducible refine LeO.bind ?_ (fun _ => ?_))
      | exact ih0 _ _ _ _ _ _
      | exact ih1 _ _ _ _ _ _ _ _ _ _
      | exact LeO.none _
      | refine LeO.ite ?_ ?_
      | refine LeO.bind ?_ (fun _ => ?_)
set_option maxHeartbeats 8000000 in
set_option maxRecDepth 100000 in
theorem subst_Expand.calls (k : Nat) (A0 : Option Addr) (c0 : Nat) (l0 : List (S49)) (A1 : Option Addr) (c1 : Nat) (l1 : List Int) (A2 : Option Addr) (c2 : Nat) (l2 : List (S44)) (r : List Int) (w : World) (hr0 : Kd.C k49 w A0 l0.length l0) (hc0 : l0.length ≤ c0) (hr1 : Kd.C (Kd.int .i32) w A1 l1.length l1) (hc1 : l1.length ≤ c1) (hr2 : Kd.C k44 w A2 l2.length l2) (hc2 : l2.length ≤ c2) (h : subst_Expand.f k l0 l1 l2 = some r) :
    Calls Try.prog 16 #[.slice A0 l0.length c0, .slice A1 l1.length c1, .slice A2 l2.length c2] w fun e w' => ∃ v0_ : Value, e = .returned (v0_) ∧ Kd.R (Kd.int .i32) 24 w' w.heap.size (fun _ => True) v0_ r ∧ Below w.heap.size w w' := by
  have hu49 := Try.underlying49
  have hu44 := Try.underlying44
  have HR0 := Aside0.mk hr0
  have HC0 := Aside0.mk hc0
  clear hr0 hc0
  have HR1 := Aside0.mk hr1
  have HC1 := Aside0.mk hc1
  clear hr1 hc1
  have HR2 := Aside0.mk hr2
  have HC2 := Aside0.mk hc2
  clear hr2 hc2
  have HB := Aside0.mk (Below.refl w.heap.size w)
  have H : (subst_Expand.l0 k l1 l2 ([] : List Int) l0 (l0.length : Int) 0) = some r := h
  clear h
  have H' := Aside0.mk H
  clear H
  go_enter Try.func16, Try.ntmps16
  go_wp2
  go_loopg [7, 13] k (fun kq v7 v13 w' => ∃ (x7_1 : List Int) (x13_1 : Int), v13 = .int .i64 x13_1 ∧ Aside0 (subst_Expand.l0 kq l1 l2 x7_1 l0 (l0.length : Int) x13_1 = some r) ∧ Aside0 (kq ≤ k) ∧ Aside0 (Kd.R (Kd.int .i32) 24 w' w.heap.size (fun _ => True) v7 x7_1) ∧ Aside0 (Below w.heap.size w w'))
  case atStart => exact ⟨(([] : List Int)), (0), (by first | rfl | (simp; done) | (simp [*]; done)), H', ⟨Nat.le_refl _⟩, ⟨by first | exact Kd.R_nil _ _ _ _ _ | exact Kd.N_nil _ _ _ _ _ | exact Kd.V_nil _ _ _ _ _ | exact Kd.Q_nil _ _ _ _ _ | exact Kd.S_nil _ _ _ _ _⟩, ⟨by repeat (first | (with_reducible first | exact HB.out | apply below_alloc | apply pw_below_drewN | apply below_drew1) | exact HB.out)⟩⟩
  case round =>
    clear H'
    try clear c1
    try clear c2
    try clear p2
    obtain ⟨x7_1, x13_1, rfl, HA, HK1, HO_7, HB⟩ := hrel
    cases gk with
    | zero => exact absurd HA.out (by simp [subst_Expand.l0])
    | succ k1 =>
      have H := HA.out
      clear HA
      simp only [subst_Expand.l0] at H
      by_cases c4 : x13_1 < (l0.length : Int)
      · rw [if_pos c4] at H
        have c4b0 : decide (x13_1 < (l0.length : Int)) = true := decide_eq_true c4
        clear c4
        by_cases c5 : 0 ≤ x13_1
        · rw [if_pos c5] at H
          have c5b0 : decide (0 ≤ x13_1) = true := decide_eq_true c5
          clear c5
          by_cases c6 : x13_1 < (l0.length : Int)
          · rw [if_pos c6] at H
            have c6b0 : decide (x13_1 < (l0.length : Int)) = true := decide_eq_true c6
            clear c6
            by_cases c7 : ((rd_T49 l0 x13_1).f0) = 1
            · rw [if_pos c7] at H
              have c7b0 : (((rd_T49 l0 x13_1).f0) == 1) = true := beq_iff_eq.mpr c7
              have c7b1 : (((rd_T49 l0 x13_1).f0) != 1) = false := bne_eq_false_iff_eq.mpr c7
              clear c7
              by_cases c8 : x7_1.length + ((rd_T49 l0 x13_1).f1).length < 35184372088832
              · rw [if_pos c8] at H
                have LMc8 := Aside0.mk c8
                clear c8
                obtain ⟨y236, hy236⟩ : ∃ y_ : List Int, y_ = (x7_1 ++ ((rd_T49 l0 x13_1).f1)) := ⟨_, rfl⟩
                replace H : (subst_Expand.l0 k1 l1 l2 y236 l0 (l0.length : Int) (wrap64 (x13_1 + 1))) = some r := by first | (rw [hy236]; with_reducible exact H) | (have H2_ := (Option.bind_some _ _).symm.trans H; rw [hy236]; with_reducible exact H2_) | (have H2_ := (Option.bind_some _ _).symm.trans H; with_reducible exact H2_) | with_reducible exact H | (rw [hy236]; exact H) | exact H
                have Ny236 := Aside0.mk hy236
                clear hy236
                have H' := Aside0.mk H
                clear H
                have p234 : 0 ≤ (x13_1 : Int) := of_decide_eq_true (by first | (with_reducible assumption) | assumption)
                have q234 : x13_1 < (l0.length : Int) := of_decide_eq_true (by first | (with_reducible assumption) | assumption)
                obtain ⟨ad234, A234_1, c234_1, e234, hx234_0, hx234_1, hx234_2, hl234_1, hi234_1⟩ := at_T49 HR0.out x13_1 p234 q234
                cases e234
                replace hx234_0 := (HB.out.cell (World.block_lt_of_cell? w _ hx234_0)).trans hx234_0
                replace hx234_1 := (HB.out.cell (World.block_lt_of_cell? w _ hx234_1)).trans hx234_1
                replace hx234_2 := (HB.out.cell (World.block_lt_of_cell? w _ hx234_2)).trans hx234_2
                have HR234_1 := Aside0.mk hi234_1
                have HC234_1 := Aside0.mk hl234_1
                clear hi234_1 hl234_1
                replace p234 := eq_true p234
                replace q234 := eq_true q234
                go_wp2_with (first | ((with_reducible refine gate_dst (N := 9) rfl ?_); (try (refine gate_guard (by rfl) ?_; dsimp only)); refine box_event ?hg (N := 9) ?hd (cs := #[.int .u8 0, .slice none 0 0, .int .i64 0]) (t := 49) ?hr ?_; (case hd => rfl); (case hg => rfl); (case hr => first | (go_simp; done) | (go_simp; rfl)); intro gb235 hg w9 hbox hb; have n0_ := Aside0.mk (Kd.R_below (by (with_reducible repeat (first | apply Kd.R_alloc | apply Kd.R_drewN | apply Kd.R_drew)); exact HO_7.out) hb); have n1_ := Aside0.mk (below_step (by repeat (first | (with_reducible first | exact HB.out | apply below_alloc | apply pw_below_drewN | apply below_drew1) | exact HB.out)) hb); have n2_ := Aside0.mk (hbox); have n3_ := Aside0.mk ((by rw [hg]; exact (below_size (by repeat (first | (with_reducible first | exact HB.out | apply below_alloc | apply pw_below_drewN | apply below_drew1) | exact HB.out))) : w.heap.size ≤ gb235)); have n4_ := Aside0.mk ((by rw [hg]; exact (below_size (by repeat (first | (with_reducible first | exact HB.out | apply below_alloc | apply pw_below_drewN | apply below_drew1) | exact HB.out))) : w.heap.size ≤ gb235)); clear HO_7; clear HB; have HO_7 := n0_; have HB := n1_; have BK235 := n2_; have GW235 := n3_; have GE235 := n4_; clear n0_ n1_ n2_ n3_ n4_; clear hb hbox hg; have hcz10_0 : w9.cell? ⟨gb235, 0, none⟩ = some (.int .u8 0) := (blk_cell BK235.out 0).trans rfl; have hcz10_1 : w9.cell? ⟨gb235, 1, none⟩ = some (.slice none 0 0) := (blk_cell BK235.out 1).trans rfl; have hcz10_2 : w9.cell? ⟨gb235, 2, none⟩ = some (.int .i64 0) := (blk_cell BK235.out 2).trans rfl; have hfz10_0 := blk_frozen BK235.out 0; have hfz10_1 := blk_frozen BK235.out 1; have hfz10_2 := blk_frozen BK235.out 2) | ((with_reducible refine gate_builtin (b := .append) (xs := #[.tmp 21, .tmp 23]) rfl ?_); (try (refine gate_guard (by rfl) ?_; dsimp only)); at_builtin; refine Kd.R_append_rows (Kd.int .i32) (w0 := w) w.heap.size rfl (.tmp 21) (.tmp 23) 23 24 (.int .i32 0) 4 rfl Try.underlying23 info24 rfl (by decide) (by omega) u7 x7_1 ((rd_T49 l0 x13_1).f1) _ _ _ (fun _ => True) (fun _ => False) rfl rfl ?aO ?aR (fun _ _ h => h) (fun _ h => h.elim) ?aF ?aB ?aS ?aL ?_; (case aR => exact Kd.C_below HR234_1.out (by repeat (first | (with_reducible first | exact HB.out | apply below_alloc | apply pw_below_drewN | apply below_drew1 | refine below_set ?_ GE235.out) | exact HB.out))); (case aB => exact (by repeat (first | (with_reducible first | exact HB.out | apply below_alloc | apply pw_below_drewN | apply below_drew1 | refine below_set ?_ GE235.out) | exact HB.out))); (case aF => exact (fun _ _ => trivial)); (case aO => exact (by (with_reducible repeat (first | apply Kd.R_alloc | apply Kd.R_drewN | apply Kd.R_drew)); exact Kd.R_mono (Kd.R_far (p := ⟨gb235, 2, none⟩) (Kd.R_far (p := ⟨gb235, 1, none⟩) (Kd.R_far (p := ⟨gb235, 0, none⟩) (Kd.R_types HO_7.out BK235.out (by decide)) (fun _ hk => hk.2) (.int .u8 ((rd_T49 l0 x13_1).f0))) (fun _ hk => hk.2) (.slice A234_1 ((rd_T49 l0 x13_1).f1).length c234_1)) (fun _ hk => hk.2) (.int .i64 ((rd_T49 l0 x13_1).f2))) (fun _ hk => trivial))); (case aS => exact (below_size (by repeat (first | (with_reducible first | exact HB.out | apply below_alloc | apply pw_below_drewN | apply below_drew1 | refine below_set ?_ GE235.out) | exact HB.out)))); (case aL => have := LMc8.out; omega); intro v237 w11 ho hb hg hat; rw [← Ny236.out] at ho; have n0_ := Aside0.mk (blk_grown (g := gb235) (o := .cells #[.int .u8 ((rd_T49 l0 x13_1).f0), .slice A234_1 ((rd_T49 l0 x13_1).f1).length c234_1, .int .i64 ((rd_T49 l0 x13_1).f2)] 49 (0, 0)) (by (with_reducible repeat (first | refine blk_drewN ?_ _ | refine blk_drew ?_ | refine blk_alloc ?_ _)); refine blk_put (cs := #[.int .u8 ((rd_T49 l0 x13_1).f0), .slice A234_1 ((rd_T49 l0 x13_1).f1).length c234_1, .int .i64 0]) ?_ 2 _ rfl; (with_reducible repeat (first | refine blk_drewN ?_ _ | refine blk_drew ?_ | refine blk_alloc ?_ _)); refine blk_put (cs := #[.int .u8 ((rd_T49 l0 x13_1).f0), .slice none 0 0, .int .i64 0]) ?_ 1 _ rfl; (with_reducible repeat (first | refine blk_drewN ?_ _ | refine blk_drew ?_ | refine blk_alloc ?_ _)); refine blk_put (cs := #[.int .u8 0, .slice none 0 0, .int .i64 0]) ?_ 0 _ rfl; (with_reducible repeat (first | refine blk_drewN ?_ _ | refine blk_drew ?_ | refine blk_alloc ?_ _)); exact BK235.out) hg (Kd.R_ne HO_7.out BK235.out (by decide))); have n1_ := Aside0.mk (hb); have n2_ := Aside0.mk (ho); clear BK235; clear HB; clear HO_7; have BK235 := n0_; have HB := n1_; have HO238 := n2_; clear n0_ n1_ n2_; clear ho hb hg hat))
                go_roundg k1
                case measure => have := HK1.out; omega
                case rel => exact ⟨(y236), (wrap64 (x13_1 + 1)), (by first | rfl | (simp; done) | (simp [*]; done)), H', ⟨by have := HK1.out; omega⟩, ⟨by (with_reducible repeat (first | apply Kd.R_alloc | apply Kd.R_drewN | apply Kd.R_drew)); exact HO238.out⟩, ⟨by repeat (first | (with_reducible first | exact HB.out | apply below_alloc | apply pw_below_drewN | apply below_drew1 | refine below_set ?_ GE235.out) | exact HB.out)⟩⟩
              · rw [if_neg c8] at H
                exact absurd H (by simp)
            · rw [if_neg c7] at H
              have c7b0 : (((rd_T49 l0 x13_1).f0) == 1) = false := beq_eq_false_iff_ne.mpr c7
              have c7b1 : (((rd_T49 l0 x13_1).f0) != 1) = true := bne_iff_ne.mpr c7
              have HC12 := Aside0.mk H
              clear H
              have p234 : 0 ≤ (x13_1 : Int) := of_decide_eq_true (by first | (with_reducible assumption) | assumption)
              have q234 : x13_1 < (l0.length : Int) := of_decide_eq_true (by first | (with_reducible assumption) | assumption)
              obtain ⟨ad234, A234_1, c234_1, e234, hx234_0, hx234_1, hx234_2, hl234_1, hi234_1⟩ := at_T49 HR0.out x13_1 p234 q234
              cases e234
              replace hx234_0 := (HB.out.cell (World.block_lt_of_cell? w _ hx234_0)).trans hx234_0
              replace hx234_1 := (HB.out.cell (World.block_lt_of_cell? w _ hx234_1)).trans hx234_1
              replace hx234_2 := (HB.out.cell (World.block_lt_of_cell? w _ hx234_2)).trans hx234_2
              have HR234_1 := Aside0.mk hi234_1
              have HC234_1 := Aside0.mk hl234_1
              clear hi234_1 hl234_1
              replace p234 := eq_true p234
              replace q234 := eq_true q234
              go_upto_region 7 with (first | ((with_reducible refine gate_dst (N := 9) rfl ?_); (try (refine gate_guard (by rfl) ?_; dsimp only)); refine box_event ?hg (N := 9) ?hd (cs := #[.int .u8 0, .slice none 0 0, .int .i64 0]) (t := 49) ?hr ?_; (case hd => rfl); (case hg => rfl); (case hr => first | (go_simp; done) | (go_simp; rfl)); intro gb235 hg w13 hbox hb; have n0_ := Aside0.mk (Kd.R_below (by (with_reducible repeat (first | apply Kd.R_alloc | apply Kd.R_drewN | apply Kd.R_drew)); exact HO_7.out) hb); have n1_ := Aside0.mk (below_step (by repeat (first | (with_reducible first | exact HB.out | apply below_alloc | apply pw_below_drewN | apply below_drew1) | exact HB.out)) hb); have n2_ := Aside0.mk (hbox); have n3_ := Aside0.mk ((by rw [hg]; exact (below_size (by repeat (first | (with_reducible first | exact HB.out | apply below_alloc | apply pw_below_drewN | apply below_drew1) | exact HB.out))) : w.heap.size ≤ gb235)); have n4_ := Aside0.mk ((by rw [hg]; exact (below_size (by repeat (first | (with_reducible first | exact HB.out | apply below_alloc | apply pw_below_drewN | apply below_drew1) | exact HB.out))) : w.heap.size ≤ gb235)); clear HO_7; clear HB; have HO_7 := n0_; have HB := n1_; have BK235 := n2_; have GW235 := n3_; have GE235 := n4_; clear n0_ n1_ n2_ n3_ n4_; clear hb hbox hg; have hcz14_0 : w13.cell? ⟨gb235, 0, none⟩ = some (.int .u8 0) := (blk_cell BK235.out 0).trans rfl; have hcz14_1 : w13.cell? ⟨gb235, 1, none⟩ = some (.slice none 0 0) := (blk_cell BK235.out 1).trans rfl; have hcz14_2 : w13.cell? ⟨gb235, 2, none⟩ = some (.int .i64 0) := (blk_cell BK235.out 2).trans rfl; have hfz14_0 := blk_frozen BK235.out 0; have hfz14_1 := blk_frozen BK235.out 1; have hfz14_2 := blk_frozen BK235.out 2))
              (try simp only [Act.put, List.setIfInBounds_toArray, List.set_cons_zero, List.set_cons_succ])
              go_cut [25] (fun v25 wc => ∃ (kq : Nat) (x25_11 : Bool), v25 = .bool x25_11 ∧ Aside0 (subst_Expand.j1 kq l1 l2 x7_1 l0 (l0.length : Int) x13_1 x25_11 ((rd_T49 l0 x13_1).f0) ((rd_T49 l0 x13_1).f1) ((rd_T49 l0 x13_1).f2) = some r) ∧ Aside0 (kq ≤ k1) ∧ Aside0 (Kd.R (Kd.int .i32) 24 wc w.heap.size (fun _ => True) u7 x7_1) ∧ Aside0 (wc.heap[gb235]? = some (.cells #[.int .u8 ((rd_T49 l0 x13_1).f0), (.slice A234_1 ((rd_T49 l0 x13_1).f1).length c234_1), .int .i64 ((rd_T49 l0 x13_1).f2)] 49 (0, 0))) ∧ Aside0 (Below w.heap.size w wc))
              case first =>
                have H := HC12.out
                clear HC12
                by_cases c15 : ((rd_T49 l0 x13_1).f0) = 2
                · rw [if_pos c15] at H
                  have c15b0 : (((rd_T49 l0 x13_1).f0) == 2) = true := beq_iff_eq.mpr c15
                  have c15b1 : (((rd_T49 l0 x13_1).f0) != 2) = false := bne_eq_false_iff_eq.mpr c15
                  clear c15
                  (first | rw [c15b0] | (simp only [i64_w, i32_w]; rw [c15b0]) | skip)
                  by_cases c16 : ((rd_T49 l0 x13_1).f2) ≥ 0
                  · rw [if_pos c16] at H
                    have c16b0 : decide (0 ≤ ((rd_T49 l0 x13_1).f2)) = true := decide_eq_true c16
                    clear c16
                    have H' := Aside0.mk H
                    clear H
                    have hcz17_0 : w13.cell? ⟨gb235, 0, none⟩ = some (.int .u8 0) := (blk_cell BK235.out 0).trans rfl
                    have hcz17_1 : w13.cell? ⟨gb235, 1, none⟩ = some (.slice none 0 0) := (blk_cell BK235.out 1).trans rfl
                    have hcz17_2 : w13.cell? ⟨gb235, 2, none⟩ = some (.int .i64 0) := (blk_cell BK235.out 2).trans rfl
                    have hfz17_0 := blk_frozen BK235.out 0
                    have hfz17_1 := blk_frozen BK235.out 1
                    have hfz17_2 := blk_frozen BK235.out 2
                    go_wp2
                    go_meet
                    case rel => exact ⟨_, (decide (((rd_T49 l0 x13_1).f2) < (l2.length : Int))), (by first | rfl | (simp; done) | (simp [*]; done)), H', ⟨by have := HK1.out; first | omega | exact Nat.le_refl _⟩, ⟨by (with_reducible repeat (first | apply Kd.R_alloc | apply Kd.R_drewN | apply Kd.R_drew)); exact Kd.R_mono (Kd.R_far (p := ⟨gb235, 2, none⟩) (Kd.R_far (p := ⟨gb235, 1, none⟩) (Kd.R_far (p := ⟨gb235, 0, none⟩) (Kd.R_types HO_7.out BK235.out (by decide)) (fun _ hk => hk.2) (.int .u8 ((rd_T49 l0 x13_1).f0))) (fun _ hk => hk.2) (.slice A234_1 ((rd_T49 l0 x13_1).f1).length c234_1)) (fun _ hk => hk.2) (.int .i64 ((rd_T49 l0 x13_1).f2))) (fun _ hk => trivial)⟩, ⟨by (with_reducible repeat (first | refine blk_drewN ?_ _ | refine blk_drew ?_ | refine blk_alloc ?_ _)); refine blk_put (cs := #[.int .u8 ((rd_T49 l0 x13_1).f0), .slice A234_1 ((rd_T49 l0 x13_1).f1).length c234_1, .int .i64 0]) ?_ 2 _ rfl; (with_reducible repeat (first | refine blk_drewN ?_ _ | refine blk_drew ?_ | refine blk_alloc ?_ _)); refine blk_put (cs := #[.int .u8 ((rd_T49 l0 x13_1).f0), .slice none 0 0, .int .i64 0]) ?_ 1 _ rfl; (with_reducible repeat (first | refine blk_drewN ?_ _ | refine blk_drew ?_ | refine blk_alloc ?_ _)); refine blk_put (cs := #[.int .u8 0, .slice none 0 0, .int .i64 0]) ?_ 0 _ rfl; (with_reducible repeat (first | refine blk_drewN ?_ _ | refine blk_drew ?_ | refine blk_alloc ?_ _)); exact BK235.out⟩, ⟨by repeat (first | (with_reducible first | exact HB.out | apply below_alloc | apply pw_below_drewN | apply below_drew1 | refine below_set ?_ GE235.out) | exact HB.out)⟩⟩
                  · rw [if_neg c16] at H
                    have c16b0 : decide (0 ≤ ((rd_T49 l0 x13_1).f2)) = false := decide_eq_false c16
                    clear c16
                    have H' := Aside0.mk H
                    clear H
                    have hcz18_0 : w13.cell? ⟨gb235, 0, none⟩ = some (.int .u8 0) := (blk_cell BK235.out 0).trans rfl
                    have hcz18_1 : w13.cell? ⟨gb235, 1, none⟩ = some (.slice none 0 0) := (blk_cell BK235.out 1).trans rfl
                    have hcz18_2 : w13.cell? ⟨gb235, 2, none⟩ = some (.int .i64 0) := (blk_cell BK235.out 2).trans rfl
                    have hfz18_0 := blk_frozen BK235.out 0
                    have hfz18_1 := blk_frozen BK235.out 1
                    have hfz18_2 := blk_frozen BK235.out 2
                    go_wp2
                    go_meet
                    case rel => exact ⟨_, (false), (by first | rfl | (simp; done) | (simp [*]; done)), H', ⟨by have := HK1.out; first | omega | exact Nat.le_refl _⟩, ⟨by (with_reducible repeat (first | apply Kd.R_alloc | apply Kd.R_drewN | apply Kd.R_drew)); exact Kd.R_mono (Kd.R_far (p := ⟨gb235, 2, none⟩) (Kd.R_far (p := ⟨gb235, 1, none⟩) (Kd.R_far (p := ⟨gb235, 0, none⟩) (Kd.R_types HO_7.out BK235.out (by decide)) (fun _ hk => hk.2) (.int .u8 ((rd_T49 l0 x13_1).f0))) (fun _ hk => hk.2) (.slice A234_1 ((rd_T49 l0 x13_1).f1).length c234_1)) (fun _ hk => hk.2) (.int .i64 ((rd_T49 l0 x13_1).f2))) (fun _ hk => trivial)⟩, ⟨by (with_reducible repeat (first | refine blk_drewN ?_ _ | refine blk_drew ?_ | refine blk_alloc ?_ _)); refine blk_put (cs := #[.int .u8 ((rd_T49 l0 x13_1).f0), .slice A234_1 ((rd_T49 l0 x13_1).f1).length c234_1, .int .i64 0]) ?_ 2 _ rfl; (with_reducible repeat (first | refine blk_drewN ?_ _ | refine blk_drew ?_ | refine blk_alloc ?_ _)); refine blk_put (cs := #[.int .u8 ((rd_T49 l0 x13_1).f0), .slice none 0 0, .int .i64 0]) ?_ 1 _ rfl; (with_reducible repeat (first | refine blk_drewN ?_ _ | refine blk_drew ?_ | refine blk_alloc ?_ _)); refine blk_put (cs := #[.int .u8 0, .slice none 0 0, .int .i64 0]) ?_ 0 _ rfl; (with_reducible repeat (first | refine blk_drewN ?_ _ | refine blk_drew ?_ | refine blk_alloc ?_ _)); exact BK235.out⟩, ⟨by repeat (first | (with_reducible first | exact HB.out | apply below_alloc | apply pw_below_drewN | apply below_drew1 | refine below_set ?_ GE235.out) | exact HB.out)⟩⟩
                · rw [if_neg c15] at H
                  have c15b0 : (((rd_T49 l0 x13_1).f0) == 2) = false := beq_eq_false_iff_ne.mpr c15
                  have c15b1 : (((rd_T49 l0 x13_1).f0) != 2) = true := bne_iff_ne.mpr c15
                  (first | rw [c15b0] | (simp only [i64_w, i32_w]; rw [c15b0]) | skip)
                  have H' := Aside0.mk H
                  clear H
                  have hcz19_0 : w13.cell? ⟨gb235, 0, none⟩ = some (.int .u8 0) := (blk_cell BK235.out 0).trans rfl
                  have hcz19_1 : w13.cell? ⟨gb235, 1, none⟩ = some (.slice none 0 0) := (blk_cell BK235.out 1).trans rfl
                  have hcz19_2 : w13.cell? ⟨gb235, 2, none⟩ = some (.int .i64 0) := (blk_cell BK235.out 2).trans rfl
                  have hfz19_0 := blk_frozen BK235.out 0
                  have hfz19_1 := blk_frozen BK235.out 1
                  have hfz19_2 := blk_frozen BK235.out 2
                  go_wp2
                  go_meet
                  case rel => exact ⟨_, (false), (by first | rfl | (simp; done) | (simp [*]; done)), H', ⟨by have := HK1.out; first | omega | exact Nat.le_refl _⟩, ⟨by (with_reducible repeat (first | apply Kd.R_alloc | apply Kd.R_drewN | apply Kd.R_drew)); exact Kd.R_mono (Kd.R_far (p := ⟨gb235, 2, none⟩) (Kd.R_far (p := ⟨gb235, 1, none⟩) (Kd.R_far (p := ⟨gb235, 0, none⟩) (Kd.R_types HO_7.out BK235.out (by decide)) (fun _ hk => hk.2) (.int .u8 ((rd_T49 l0 x13_1).f0))) (fun _ hk => hk.2) (.slice A234_1 ((rd_T49 l0 x13_1).f1).length c234_1)) (fun _ hk => hk.2) (.int .i64 ((rd_T49 l0 x13_1).f2))) (fun _ hk => trivial)⟩, ⟨by (with_reducible repeat (first | refine blk_drewN ?_ _ | refine blk_drew ?_ | refine blk_alloc ?_ _)); refine blk_put (cs := #[.int .u8 ((rd_T49 l0 x13_1).f0), .slice A234_1 ((rd_T49 l0 x13_1).f1).length c234_1, .int .i64 0]) ?_ 2 _ rfl; (with_reducible repeat (first | refine blk_drewN ?_ _ | refine blk_drew ?_ | refine blk_alloc ?_ _)); refine blk_put (cs := #[.int .u8 ((rd_T49 l0 x13_1).f0), .slice none 0 0, .int .i64 0]) ?_ 1 _ rfl; (with_reducible repeat (first | refine blk_drewN ?_ _ | refine blk_drew ?_ | refine blk_alloc ?_ _)); refine blk_put (cs := #[.int .u8 0, .slice none 0 0, .int .i64 0]) ?_ 0 _ rfl; (with_reducible repeat (first | refine blk_drewN ?_ _ | refine blk_drew ?_ | refine blk_alloc ?_ _)); exact BK235.out⟩, ⟨by repeat (first | (with_reducible first | exact HB.out | apply below_alloc | apply pw_below_drewN | apply below_drew1 | refine below_set ?_ GE235.out) | exact HB.out)⟩⟩
              case rest =>
                clear HC12
                try clear c1
                try clear c2
                try clear p2
                try clear q2
                try clear hx2
                try clear c4
                try clear c4b0
                try clear c5
                try clear c5b0
                try clear c6
                try clear c6b0
                try clear p6
                try clear c7
                try clear c7b0
                try clear c7b1
                try clear c8
                try clear c15
                try clear c15b0
                try clear c15b1
                try clear c16
                try clear c16b0
                try clear hcz10_0
                try clear hcz10_1
                try clear hcz10_2
                try clear hcz14_0
                try clear hcz14_1
                try clear hcz14_2
                try clear hcz17_0
                try clear hcz17_1
                try clear hcz17_2
                try clear hcz18_0
                try clear hcz18_1
                try clear hcz18_2
                try clear hcz19_0
                try clear hcz19_1
                try clear hcz19_2
                try clear hfz10_0
                try clear hfz10_1
                try clear hfz10_2
                try clear hfz14_0
                try clear hfz14_1
                try clear hfz14_2
                try clear hfz17_0
                try clear hfz17_1
                try clear hfz17_2
                try clear hfz18_0
                try clear hfz18_1
                try clear hfz18_2
                try clear hfz19_0
                try clear hfz19_1
                try clear hfz19_2
                try clear hx234_0
                try clear hx234_1
                try clear hx234_2
                try clear p2
                try clear p234
                try clear q234
                obtain ⟨kq, x25_11, rfl, HA, HJ11, HO_7, BK235, HB⟩ := hcut
                cases kq with
                | zero => exact absurd HA.out (by simp [subst_Expand.j1])
                | succ kj11 =>
                  have H := HA.out
                  clear HA
                  simp only [subst_Expand.j1] at H
                  by_cases c20 : x25_11 = true
                  · subst c20
                    have H1 : (if 0 ≤ ((rd_T49 l0 x13_1).f2) then (if ((rd_T49 l0 x13_1).f2) < (l2.length : Int) then (if ((rd_T44 l2 ((rd_T49 l0 x13_1).f2)).f0) ≥ 0 then (if ((rd_T44 l2 ((rd_T49 l0 x13_1).f2)).f0) ≤ ((rd_T44 l2 ((rd_T49 l0 x13_1).f2)).f1) then (if ((rd_T44 l2 ((rd_T49 l0 x13_1).f2)).f1) ≤ (l1.length : Int) then (if 0 ≤ ((rd_T44 l2 ((rd_T49 l0 x13_1).f2)).f0) then (if x7_1.length + ((l1.take (((rd_T44 l2 ((rd_T49 l0 x13_1).f2)).f1) : Int).toNat).drop (((rd_T44 l2 ((rd_T49 l0 x13_1).f2)).f0) : Int).toNat).length < 35184372088832 then (subst_Expand.l0 kj11 l1 l2 (x7_1 ++ ((l1.take (((rd_T44 l2 ((rd_T49 l0 x13_1).f2)).f1) : Int).toNat).drop (((rd_T44 l2 ((rd_T49 l0 x13_1).f2)).f0) : Int).toNat)) l0 (l0.length : Int) (wrap64 (x13_1 + 1))) else (none)) else (none)) else (subst_Expand.l0 kj11 l1 l2 x7_1 l0 (l0.length : Int) (wrap64 (x13_1 + 1)))) else (subst_Expand.l0 kj11 l1 l2 x7_1 l0 (l0.length : Int) (wrap64 (x13_1 + 1)))) else (subst_Expand.l0 kj11 l1 l2 x7_1 l0 (l0.length : Int) (wrap64 (x13_1 + 1)))) else (none)) else (none)) = some r := by rw [if_pos rfl] at H; exact H
                    clear H
                    have H := H1
                    clear H1
                    by_cases c21 : 0 ≤ ((rd_T49 l0 x13_1).f2)
                    · rw [if_pos c21] at H
                      have c21b0 : decide (0 ≤ ((rd_T49 l0 x13_1).f2)) = true := decide_eq_true c21
                      clear c21
                      by_cases c22 : ((rd_T49 l0 x13_1).f2) < (l2.length : Int)
                      · rw [if_pos c22] at H
                        have c22b0 : decide (((rd_T49 l0 x13_1).f2) < (l2.length : Int)) = true := decide_eq_true c22
                        clear c22
                        by_cases c23 : ((rd_T44 l2 ((rd_T49 l0 x13_1).f2)).f0) ≥ 0
                        · rw [if_pos c23] at H
                          have c23b0 : decide (0 ≤ ((rd_T44 l2 ((rd_T49 l0 x13_1).f2)).f0)) = true := decide_eq_true c23
                          clear c23
                          by_cases c24 : ((rd_T44 l2 ((rd_T49 l0 x13_1).f2)).f0) ≤ ((rd_T44 l2 ((rd_T49 l0 x13_1).f2)).f1)
                          · rw [if_pos c24] at H
                            have c24b0 : decide (((rd_T44 l2 ((rd_T49 l0 x13_1).f2)).f0) ≤ ((rd_T44 l2 ((rd_T49 l0 x13_1).f2)).f1)) = true := decide_eq_true c24
                            clear c24
                            by_cases c25 : ((rd_T44 l2 ((rd_T49 l0 x13_1).f2)).f1) ≤ (l1.length : Int)
                            · rw [if_pos c25] at H
                              have c25b0 : decide (((rd_T44 l2 ((rd_T49 l0 x13_1).f2)).f1) ≤ (l1.length : Int)) = true := decide_eq_true c25
                              clear c25
                              by_cases c26 : 0 ≤ ((rd_T44 l2 ((rd_T49 l0 x13_1).f2)).f0)
                              · rw [if_pos c26] at H
                                have c26b0 := eq_true c26
                                have c26b1 : decide (0 ≤ ((rd_T44 l2 ((rd_T49 l0 x13_1).f2)).f0)) = true := decide_eq_true c26
                                clear c26
                                have c27b0 := eq_true (of_decide_eq_true (by first | (with_reducible assumption) | assumption) : ((rd_T44 l2 ((rd_T49 l0 x13_1).f2)).f0) ≤ ((rd_T44 l2 ((rd_T49 l0 x13_1).f2)).f1))
                                have c28b0 := eq_true (of_decide_eq_true (by first | (with_reducible assumption) | assumption) : ((rd_T44 l2 ((rd_T49 l0 x13_1).f2)).f1) ≤ (l1.length : Int))
                                by_cases c29 : x7_1.length + ((l1.take (((rd_T44 l2 ((rd_T49 l0 x13_1).f2)).f1) : Int).toNat).drop (((rd_T44 l2 ((rd_T49 l0 x13_1).f2)).f0) : Int).toNat).length < 35184372088832
                                · rw [if_pos c29] at H
                                  have LMc29 := Aside0.mk c29
                                  clear c29
                                  obtain ⟨y242, hy242⟩ : ∃ y_ : List Int, y_ = (x7_1 ++ ((l1.take (((rd_T44 l2 ((rd_T49 l0 x13_1).f2)).f1) : Int).toNat).drop (((rd_T44 l2 ((rd_T49 l0 x13_1).f2)).f0) : Int).toNat)) := ⟨_, rfl⟩
                                  replace H : (subst_Expand.l0 kj11 l1 l2 y242 l0 (l0.length : Int) (wrap64 (x13_1 + 1))) = some r := by first | (rw [hy242]; with_reducible exact H) | (have H2_ := (Option.bind_some _ _).symm.trans H; rw [hy242]; with_reducible exact H2_) | (have H2_ := (Option.bind_some _ _).symm.trans H; with_reducible exact H2_) | with_reducible exact H | (rw [hy242]; exact H) | exact H
                                  have Ny242 := Aside0.mk hy242
                                  clear hy242
                                  have H' := Aside0.mk H
                                  clear H
                                  have hcz30_0 : wc.cell? ⟨gb235, 0, none⟩ = some (.int .u8 ((rd_T49 l0 x13_1).f0)) := (blk_cell BK235.out 0).trans rfl
                                  have hcz30_1 : wc.cell? ⟨gb235, 1, none⟩ = some (.slice A234_1 ((rd_T49 l0 x13_1).f1).length c234_1) := (blk_cell BK235.out 1).trans rfl
                                  have hcz30_2 : wc.cell? ⟨gb235, 2, none⟩ = some (.int .i64 ((rd_T49 l0 x13_1).f2)) := (blk_cell BK235.out 2).trans rfl
                                  have hfz30_0 := blk_frozen BK235.out 0
                                  have hfz30_1 := blk_frozen BK235.out 1
                                  have hfz30_2 := blk_frozen BK235.out 2
                                  have p239 : 0 ≤ (((rd_T49 l0 x13_1).f2) : Int) := of_decide_eq_true (by first | (with_reducible assumption) | assumption)
                                  have q239 : ((rd_T49 l0 x13_1).f2) < (l2.length : Int) := of_decide_eq_true (by first | (with_reducible assumption) | assumption)
                                  obtain ⟨ad239, e239, hx239_0, hx239_1⟩ := at_T44 HR2.out ((rd_T49 l0 x13_1).f2) p239 q239
                                  cases e239
                                  replace hx239_0 := (HB.out.cell (World.block_lt_of_cell? w _ hx239_0)).trans hx239_0
                                  replace hx239_1 := (HB.out.cell (World.block_lt_of_cell? w _ hx239_1)).trans hx239_1
                                  replace p239 := eq_true p239
                                  replace q239 := eq_true q239
                                  go_wp2_with (first | ((with_reducible refine gate_dst (N := 10) rfl ?_); (try (refine gate_guard (by rfl) ?_; dsimp only)); refine box_event ?hg (N := 10) ?hd (cs := #[.int .i64 0, .int .i64 0]) (t := 44) ?hr ?_; (case hd => rfl); (case hg => rfl); (case hr => first | (go_simp; done) | (go_simp; rfl)); intro gb240 hg w31 hbox hb; have n0_ := Aside0.mk (Kd.R_below (by (with_reducible repeat (first | apply Kd.R_alloc | apply Kd.R_drewN | apply Kd.R_drew)); exact HO_7.out) hb); have n1_ := Aside0.mk (blk_below (g := gb235) (o := .cells #[.int .u8 ((rd_T49 l0 x13_1).f0), .slice A234_1 ((rd_T49 l0 x13_1).f1).length c234_1, .int .i64 ((rd_T49 l0 x13_1).f2)] 49 (0, 0)) (by (with_reducible repeat (first | refine blk_drewN ?_ _ | refine blk_drew ?_ | refine blk_alloc ?_ _)); exact BK235.out) hb); have n2_ := Aside0.mk (below_step (by repeat (first | (with_reducible first | exact HB.out | apply below_alloc | apply pw_below_drewN | apply below_drew1 | refine below_set ?_ GE235.out) | exact HB.out)) hb); have n3_ := Aside0.mk (hbox); have n4_ := Aside0.mk ((by rw [hg]; exact (below_size (by repeat (first | (with_reducible first | exact HB.out | apply below_alloc | apply pw_below_drewN | apply below_drew1 | refine below_set ?_ GE235.out) | exact HB.out))) : w.heap.size ≤ gb240)); have n5_ := Aside0.mk ((by rw [hg]; exact (below_size (by repeat (first | (with_reducible first | exact HB.out | apply below_alloc | apply pw_below_drewN | apply below_drew1 | refine below_set ?_ GE235.out) | exact HB.out))) : w.heap.size ≤ gb240)); have n6_ := Aside0.mk ((by rw [hg]; exact Nat.ne_of_lt (blk_lt (g := gb235) (o := .cells #[.int .u8 ((rd_T49 l0 x13_1).f0), .slice A234_1 ((rd_T49 l0 x13_1).f1).length c234_1, .int .i64 ((rd_T49 l0 x13_1).f2)] 49 (0, 0)) (by (with_reducible repeat (first | refine blk_drewN ?_ _ | refine blk_drew ?_ | refine blk_alloc ?_ _)); exact BK235.out)) : gb235 ≠ gb240)); have n7_ := Aside0.mk ((by rw [hg]; exact Nat.ne_of_gt (blk_lt (g := gb235) (o := .cells #[.int .u8 ((rd_T49 l0 x13_1).f0), .slice A234_1 ((rd_T49 l0 x13_1).f1).length c234_1, .int .i64 ((rd_T49 l0 x13_1).f2)] 49 (0, 0)) (by (with_reducible repeat (first | refine blk_drewN ?_ _ | refine blk_drew ?_ | refine blk_alloc ?_ _)); exact BK235.out)) : gb240 ≠ gb235)); clear HO_7; clear BK235; clear HB; have HO_7 := n0_; have BK235 := n1_; have HB := n2_; have BK240 := n3_; have GW240 := n4_; have GE240 := n5_; have NB235_240 := n6_; have NB240_235 := n7_; clear n0_ n1_ n2_ n3_ n4_ n5_ n6_ n7_; clear hb hbox hg; have hnb32 := NB240_235.out; have hnc32 := NB235_240.out; have hcz33_0 : w31.cell? ⟨gb240, 0, none⟩ = some (.int .i64 0) := (blk_cell BK240.out 0).trans rfl; have hcz33_1 : w31.cell? ⟨gb240, 1, none⟩ = some (.int .i64 0) := (blk_cell BK240.out 1).trans rfl; have hfz33_0 := blk_frozen BK240.out 0; have hfz33_1 := blk_frozen BK240.out 1; obtain ⟨i034, hi034, _, hsz34, _⟩ := info_parts info24; obtain ⟨A34, hcut34, hA34, hC34⟩ := print_mid_of (P := Try.prog) (Value.int .i32) 0 23 24 .i64 .i64 Try.underlying23 hi034 hsz34 A1 c1 l1 ((rd_T44 l2 ((rd_T49 l0 x13_1).f2)).f0) ((rd_T44 l2 ((rd_T49 l0 x13_1).f2)).f1) (of_decide_eq_true (by first | (with_reducible assumption) | assumption)) (by first | omega | exact of_decide_eq_true (by first | (with_reducible assumption) | assumption)) (of_decide_eq_true (by first | (with_reducible assumption) | assumption)) HC1.out; have HR241 := Aside0.mk (Kd.C_of_reads (h1 := fun _ => rfl) (hA34 _ (Kd.reads_of_C HR1.out))); have HC241 := Aside0.mk hC34; clear hA34 hC34 hi034 hsz34) | ((with_reducible refine gate_builtin (b := .append) (xs := #[.tmp 63, .tmp 69]) rfl ?_); (try (refine gate_guard (by rfl) ?_; dsimp only)); at_builtin; refine Kd.R_append_rows (Kd.int .i32) (w0 := w) w.heap.size rfl (.tmp 63) (.tmp 69) 23 24 (.int .i32 0) 4 rfl Try.underlying23 info24 rfl (by decide) (by omega) u7 x7_1 ((l1.take (((rd_T44 l2 ((rd_T49 l0 x13_1).f2)).f1) : Int).toNat).drop (((rd_T44 l2 ((rd_T49 l0 x13_1).f2)).f0) : Int).toNat) _ _ _ (fun _ => True) (fun _ => False) rfl rfl ?aO ?aR (fun _ _ h => h) (fun _ h => h.elim) ?aF ?aB ?aS ?aL ?_; (case aR => first | (rw [← show ((l1.take (((rd_T44 l2 ((rd_T49 l0 x13_1).f2)).f1) : Int).toNat).drop (((rd_T44 l2 ((rd_T49 l0 x13_1).f2)).f0) : Int).toNat).length = (((rd_T44 l2 ((rd_T49 l0 x13_1).f2)).f1).toNat - ((rd_T44 l2 ((rd_T49 l0 x13_1).f2)).f0).toNat) from (by rw [List.length_drop, List.length_take]; have h_ : (((rd_T44 l2 ((rd_T49 l0 x13_1).f2)).f1) : Int) ≤ (l1.length : Int) := of_decide_eq_true (by first | (with_reducible assumption) | assumption); omega)]; exact Kd.C_below HR241.out (by repeat (first | (with_reducible first | exact HB.out | apply below_alloc | apply pw_below_drewN | apply below_drew1 | refine below_set ?_ GE235.out | refine below_set ?_ GE240.out) | exact HB.out))) | (exact Kd.C_below HR241.out (by repeat (first | (with_reducible first | exact HB.out | apply below_alloc | apply pw_below_drewN | apply below_drew1 | refine below_set ?_ GE235.out | refine below_set ?_ GE240.out) | exact HB.out)))); (case aB => exact (by repeat (first | (with_reducible first | exact HB.out | apply below_alloc | apply pw_below_drewN | apply below_drew1 | refine below_set ?_ GE235.out | refine below_set ?_ GE240.out) | exact HB.out))); (case aF => exact (fun _ _ => trivial)); (case aO => exact (by (with_reducible repeat (first | apply Kd.R_alloc | apply Kd.R_drewN | apply Kd.R_drew)); exact Kd.R_mono (Kd.R_far (p := ⟨gb240, 1, none⟩) (Kd.R_far (p := ⟨gb240, 0, none⟩) (Kd.R_types HO_7.out BK240.out (by decide)) (fun _ hk => hk.2) (.int .i64 ((rd_T44 l2 ((rd_T49 l0 x13_1).f2)).f0))) (fun _ hk => hk.2) (.int .i64 ((rd_T44 l2 ((rd_T49 l0 x13_1).f2)).f1))) (fun _ hk => trivial))); (case aS => exact (below_size (by repeat (first | (with_reducible first | exact HB.out | apply below_alloc | apply pw_below_drewN | apply below_drew1 | refine below_set ?_ GE235.out | refine below_set ?_ GE240.out) | exact HB.out)))); (case aL => have := LMc29.out; have hlx_ := (show ((l1.take (((rd_T44 l2 ((rd_T49 l0 x13_1).f2)).f1) : Int).toNat).drop (((rd_T44 l2 ((rd_T49 l0 x13_1).f2)).f0) : Int).toNat).length = (((rd_T44 l2 ((rd_T49 l0 x13_1).f2)).f1).toNat - ((rd_T44 l2 ((rd_T49 l0 x13_1).f2)).f0).toNat) from (by rw [List.length_drop, List.length_take]; have h_ : (((rd_T44 l2 ((rd_T49 l0 x13_1).f2)).f1) : Int) ≤ (l1.length : Int) := of_decide_eq_true (by first | (with_reducible assumption) | assumption); omega)); omega); intro v243 w35 ho hb hg hat; rw [← Ny242.out] at ho; have n0_ := Aside0.mk (blk_grown (g := gb235) (o := .cells #[.int .u8 ((rd_T49 l0 x13_1).f0), .slice A234_1 ((rd_T49 l0 x13_1).f1).length c234_1, .int .i64 ((rd_T49 l0 x13_1).f2)] 49 (0, 0)) (by (with_reducible repeat (first | refine blk_drewN ?_ _ | refine blk_drew ?_ | refine blk_alloc ?_ _)); refine blk_far ?_ NB235_240.out _; (with_reducible repeat (first | refine blk_drewN ?_ _ | refine blk_drew ?_ | refine blk_alloc ?_ _)); refine blk_far ?_ NB235_240.out _; (with_reducible repeat (first | refine blk_drewN ?_ _ | refine blk_drew ?_ | refine blk_alloc ?_ _)); exact BK235.out) hg (Kd.R_ne HO_7.out BK235.out (by decide))); have n1_ := Aside0.mk (blk_grown (g := gb240) (o := .cells #[.int .i64 ((rd_T44 l2 ((rd_T49 l0 x13_1).f2)).f0), .int .i64 ((rd_T44 l2 ((rd_T49 l0 x13_1).f2)).f1)] 44 (0, 0)) (by (with_reducible repeat (first | refine blk_drewN ?_ _ | refine blk_drew ?_ | refine blk_alloc ?_ _)); refine blk_put (cs := #[.int .i64 ((rd_T44 l2 ((rd_T49 l0 x13_1).f2)).f0), .int .i64 0]) ?_ 1 _ rfl; (with_reducible repeat (first | refine blk_drewN ?_ _ | refine blk_drew ?_ | refine blk_alloc ?_ _)); refine blk_put (cs := #[.int .i64 0, .int .i64 0]) ?_ 0 _ rfl; (with_reducible repeat (first | refine blk_drewN ?_ _ | refine blk_drew ?_ | refine blk_alloc ?_ _)); exact BK240.out) hg (Kd.R_ne HO_7.out BK240.out (by decide))); have n2_ := Aside0.mk (hb); have n3_ := Aside0.mk (ho); clear BK235; clear BK240; clear HB; clear HO_7; have BK235 := n0_; have BK240 := n1_; have HB := n2_; have HO244 := n3_; clear n0_ n1_ n2_ n3_; clear ho hb hg hat))
                                  go_roundg kj11
                                  case measure => have := HK1.out; have := HJ11.out; omega
                                  case rel => exact ⟨(y242), (wrap64 (x13_1 + 1)), (by first | rfl | (simp; done) | (simp [*]; done)), H', ⟨by have := HK1.out; have := HJ11.out; omega⟩, ⟨by (with_reducible repeat (first | apply Kd.R_alloc | apply Kd.R_drewN | apply Kd.R_drew)); exact HO244.out⟩, ⟨by repeat (first | (with_reducible first | exact HB.out | apply below_alloc | apply pw_below_drewN | apply below_drew1 | refine below_set ?_ GE235.out | refine below_set ?_ GE240.out) | exact HB.out)⟩⟩
                                · rw [if_neg c29] at H
                                  exact absurd H (by simp)
                              · rw [if_neg c26] at H
                                exact absurd H (by simp)
                            · rw [if_neg c25] at H
                              have c25b0 : decide (((rd_T44 l2 ((rd_T49 l0 x13_1).f2)).f1) ≤ (l1.length : Int)) = false := decide_eq_false c25
                              clear c25
                              have H' := Aside0.mk H
                              clear H
                              have hcz36_0 : wc.cell? ⟨gb235, 0, none⟩ = some (.int .u8 ((rd_T49 l0 x13_1).f0)) := (blk_cell BK235.out 0).trans rfl
                              have hcz36_1 : wc.cell? ⟨gb235, 1, none⟩ = some (.slice A234_1 ((rd_T49 l0 x13_1).f1).length c234_1) := (blk_cell BK235.out 1).trans rfl
                              have hcz36_2 : wc.cell? ⟨gb235, 2, none⟩ = some (.int .i64 ((rd_T49 l0 x13_1).f2)) := (blk_cell BK235.out 2).trans rfl
                              have hfz36_0 := blk_frozen BK235.out 0
                              have hfz36_1 := blk_frozen BK235.out 1
                              have hfz36_2 := blk_frozen BK235.out 2
                              have p239 : 0 ≤ (((rd_T49 l0 x13_1).f2) : Int) := of_decide_eq_true (by first | (with_reducible assumption) | assumption)
                              have q239 : ((rd_T49 l0 x13_1).f2) < (l2.length : Int) := of_decide_eq_true (by first | (with_reducible assumption) | assumption)
                              obtain ⟨ad239, e239, hx239_0, hx239_1⟩ := at_T44 HR2.out ((rd_T49 l0 x13_1).f2) p239 q239
                              cases e239
                              replace hx239_0 := (HB.out.cell (World.block_lt_of_cell? w _ hx239_0)).trans hx239_0
                              replace hx239_1 := (HB.out.cell (World.block_lt_of_cell? w _ hx239_1)).trans hx239_1
                              replace p239 := eq_true p239
                              replace q239 := eq_true q239
                              go_wp2_with (first | ((with_reducible refine gate_dst (N := 10) rfl ?_); (try (refine gate_guard (by rfl) ?_; dsimp only)); refine box_event ?hg (N := 10) ?hd (cs := #[.int .i64 0, .int .i64 0]) (t := 44) ?hr ?_; (case hd => rfl); (case hg => rfl); (case hr => first | (go_simp; done) | (go_simp; rfl)); intro gb240 hg w37 hbox hb; have n0_ := Aside0.mk (Kd.R_below (by (with_reducible repeat (first | apply Kd.R_alloc | apply Kd.R_drewN | apply Kd.R_drew)); exact HO_7.out) hb); have n1_ := Aside0.mk (blk_below (g := gb235) (o := .cells #[.int .u8 ((rd_T49 l0 x13_1).f0), .slice A234_1 ((rd_T49 l0 x13_1).f1).length c234_1, .int .i64 ((rd_T49 l0 x13_1).f2)] 49 (0, 0)) (by (with_reducible repeat (first | refine blk_drewN ?_ _ | refine blk_drew ?_ | refine blk_alloc ?_ _)); exact BK235.out) hb); have n2_ := Aside0.mk (below_step (by repeat (first | (with_reducible first | exact HB.out | apply below_alloc | apply pw_below_drewN | apply below_drew1 | refine below_set ?_ GE235.out) | exact HB.out)) hb); have n3_ := Aside0.mk (hbox); have n4_ := Aside0.mk ((by rw [hg]; exact (below_size (by repeat (first | (with_reducible first | exact HB.out | apply below_alloc | apply pw_below_drewN | apply below_drew1 | refine below_set ?_ GE235.out) | exact HB.out))) : w.heap.size ≤ gb240)); have n5_ := Aside0.mk ((by rw [hg]; exact (below_size (by repeat (first | (with_reducible first | exact HB.out | apply below_alloc | apply pw_below_drewN | apply below_drew1 | refine below_set ?_ GE235.out) | exact HB.out))) : w.heap.size ≤ gb240)); have n6_ := Aside0.mk ((by rw [hg]; exact Nat.ne_of_lt (blk_lt (g := gb235) (o := .cells #[.int .u8 ((rd_T49 l0 x13_1).f0), .slice A234_1 ((rd_T49 l0 x13_1).f1).length c234_1, .int .i64 ((rd_T49 l0 x13_1).f2)] 49 (0, 0)) (by (with_reducible repeat (first | refine blk_drewN ?_ _ | refine blk_drew ?_ | refine blk_alloc ?_ _)); exact BK235.out)) : gb235 ≠ gb240)); have n7_ := Aside0.mk ((by rw [hg]; exact Nat.ne_of_gt (blk_lt (g := gb235) (o := .cells #[.int .u8 ((rd_T49 l0 x13_1).f0), .slice A234_1 ((rd_T49 l0 x13_1).f1).length c234_1, .int .i64 ((rd_T49 l0 x13_1).f2)] 49 (0, 0)) (by (with_reducible repeat (first | refine blk_drewN ?_ _ | refine blk_drew ?_ | refine blk_alloc ?_ _)); exact BK235.out)) : gb240 ≠ gb235)); clear HO_7; clear BK235; clear HB; have HO_7 := n0_; have BK235 := n1_; have HB := n2_; have BK240 := n3_; have GW240 := n4_; have GE240 := n5_; have NB235_240 := n6_; have NB240_235 := n7_; clear n0_ n1_ n2_ n3_ n4_ n5_ n6_ n7_; clear hb hbox hg; have hnb38 := NB240_235.out; have hnc38 := NB235_240.out; have hcz39_0 : w37.cell? ⟨gb240, 0, none⟩ = some (.int .i64 0) := (blk_cell BK240.out 0).trans rfl; have hcz39_1 : w37.cell? ⟨gb240, 1, none⟩ = some (.int .i64 0) := (blk_cell BK240.out 1).trans rfl; have hfz39_0 := blk_frozen BK240.out 0; have hfz39_1 := blk_frozen BK240.out 1))
                              go_roundg kj11
                              case measure => have := HK1.out; have := HJ11.out; omega
                              case rel => exact ⟨(x7_1), (wrap64 (x13_1 + 1)), (by first | rfl | (simp; done) | (simp [*]; done)), H', ⟨by have := HK1.out; have := HJ11.out; omega⟩, ⟨by (with_reducible repeat (first | apply Kd.R_alloc | apply Kd.R_drewN | apply Kd.R_drew)); exact Kd.R_mono (Kd.R_far (p := ⟨gb240, 1, none⟩) (Kd.R_far (p := ⟨gb240, 0, none⟩) (Kd.R_types HO_7.out BK240.out (by decide)) (fun _ hk => hk.2) (.int .i64 ((rd_T44 l2 ((rd_T49 l0 x13_1).f2)).f0))) (fun _ hk => hk.2) (.int .i64 ((rd_T44 l2 ((rd_T49 l0 x13_1).f2)).f1))) (fun _ hk => trivial)⟩, ⟨by repeat (first | (with_reducible first | exact HB.out | apply below_alloc | apply pw_below_drewN | apply below_drew1 | refine below_set ?_ GE235.out | refine below_set ?_ GE240.out) | exact HB.out)⟩⟩
                          · rw [if_neg c24] at H
                            have c24b0 : decide (((rd_T44 l2 ((rd_T49 l0 x13_1).f2)).f0) ≤ ((rd_T44 l2 ((rd_T49 l0 x13_1).f2)).f1)) = false := decide_eq_false c24
                            clear c24
                            have H' := Aside0.mk H
                            clear H
                            have hcz40_0 : wc.cell? ⟨gb235, 0, none⟩ = some (.int .u8 ((rd_T49 l0 x13_1).f0)) := (blk_cell BK235.out 0).trans rfl
                            have hcz40_1 : wc.cell? ⟨gb235, 1, none⟩ = some (.slice A234_1 ((rd_T49 l0 x13_1).f1).length c234_1) := (blk_cell BK235.out 1).trans rfl
                            have hcz40_2 : wc.cell? ⟨gb235, 2, none⟩ = some (.int .i64 ((rd_T49 l0 x13_1).f2)) := (blk_cell BK235.out 2).trans rfl
                            have hfz40_0 := blk_frozen BK235.out 0
                            have hfz40_1 := blk_frozen BK235.out 1
                            have hfz40_2 := blk_frozen BK235.out 2
                            have p239 : 0 ≤ (((rd_T49 l0 x13_1).f2) : Int) := of_decide_eq_true (by first | (with_reducible assumption) | assumption)
                            have q239 : ((rd_T49 l0 x13_1).f2) < (l2.length : Int) := of_decide_eq_true (by first | (with_reducible assumption) | assumption)
                            obtain ⟨ad239, e239, hx239_0, hx239_1⟩ := at_T44 HR2.out ((rd_T49 l0 x13_1).f2) p239 q239
                            cases e239
                            replace hx239_0 := (HB.out.cell (World.block_lt_of_cell? w _ hx239_0)).trans hx239_0
                            replace hx239_1 := (HB.out.cell (World.block_lt_of_cell? w _ hx239_1)).trans hx239_1
                            replace p239 := eq_true p239
                            replace q239 := eq_true q239
                            go_wp2_with (first | ((with_reducible refine gate_dst (N := 10) rfl ?_); (try (refine gate_guard (by rfl) ?_; dsimp only)); refine box_event ?hg (N := 10) ?hd (cs := #[.int .i64 0, .int .i64 0]) (t := 44) ?hr ?_; (case hd => rfl); (case hg => rfl); (case hr => first | (go_simp; done) | (go_simp; rfl)); intro gb240 hg w41 hbox hb; have n0_ := Aside0.mk (Kd.R_below (by (with_reducible repeat (first | apply Kd.R_alloc | apply Kd.R_drewN | apply Kd.R_drew)); exact HO_7.out) hb); have n1_ := Aside0.mk (blk_below (g := gb235) (o := .cells #[.int .u8 ((rd_T49 l0 x13_1).f0), .slice A234_1 ((rd_T49 l0 x13_1).f1).length c234_1, .int .i64 ((rd_T49 l0 x13_1).f2)] 49 (0, 0)) (by (with_reducible repeat (first | refine blk_drewN ?_ _ | refine blk_drew ?_ | refine blk_alloc ?_ _)); exact BK235.out) hb); have n2_ := Aside0.mk (below_step (by repeat (first | (with_reducible first | exact HB.out | apply below_alloc | apply pw_below_drewN | apply below_drew1 | refine below_set ?_ GE235.out) | exact HB.out)) hb); have n3_ := Aside0.mk (hbox); have n4_ := Aside0.mk ((by rw [hg]; exact (below_size (by repeat (first | (with_reducible first | exact HB.out | apply below_alloc | apply pw_below_drewN | apply below_drew1 | refine below_set ?_ GE235.out) | exact HB.out))) : w.heap.size ≤ gb240)); have n5_ := Aside0.mk ((by rw [hg]; exact (below_size (by repeat (first | (with_reducible first | exact HB.out | apply below_alloc | apply pw_below_drewN | apply below_drew1 | refine below_set ?_ GE235.out) | exact HB.out))) : w.heap.size ≤ gb240)); have n6_ := Aside0.mk ((by rw [hg]; exact Nat.ne_of_lt (blk_lt (g := gb235) (o := .cells #[.int .u8 ((rd_T49 l0 x13_1).f0), .slice A234_1 ((rd_T49 l0 x13_1).f1).length c234_1, .int .i64 ((rd_T49 l0 x13_1).f2)] 49 (0, 0)) (by (with_reducible repeat (first | refine blk_drewN ?_ _ | refine blk_drew ?_ | refine blk_alloc ?_ _)); exact BK235.out)) : gb235 ≠ gb240)); have n7_ := Aside0.mk ((by rw [hg]; exact Nat.ne_of_gt (blk_lt (g := gb235) (o := .cells #[.int .u8 ((rd_T49 l0 x13_1).f0), .slice A234_1 ((rd_T49 l0 x13_1).f1).length c234_1, .int .i64 ((rd_T49 l0 x13_1).f2)] 49 (0, 0)) (by (with_reducible repeat (first | refine blk_drewN ?_ _ | refine blk_drew ?_ | refine blk_alloc ?_ _)); exact BK235.out)) : gb240 ≠ gb235)); clear HO_7; clear BK235; clear HB; have HO_7 := n0_; have BK235 := n1_; have HB := n2_; have BK240 := n3_; have GW240 := n4_; have GE240 := n5_; have NB235_240 := n6_; have NB240_235 := n7_; clear n0_ n1_ n2_ n3_ n4_ n5_ n6_ n7_; clear hb hbox hg; have hnb42 := NB240_235.out; have hnc42 := NB235_240.out; have hcz43_0 : w41.cell? ⟨gb240, 0, none⟩ = some (.int .i64 0) := (blk_cell BK240.out 0).trans rfl; have hcz43_1 : w41.cell? ⟨gb240, 1, none⟩ = some (.int .i64 0) := (blk_cell BK240.out 1).trans rfl; have hfz43_0 := blk_frozen BK240.out 0; have hfz43_1 := blk_frozen BK240.out 1))
                            go_roundg kj11
                            case measure => have := HK1.out; have := HJ11.out; omega
                            case rel => exact ⟨(x7_1), (wrap64 (x13_1 + 1)), (by first | rfl | (simp; done) | (simp [*]; done)), H', ⟨by have := HK1.out; have := HJ11.out; omega⟩, ⟨by (with_reducible repeat (first | apply Kd.R_alloc | apply Kd.R_drewN | apply Kd.R_drew)); exact Kd.R_mono (Kd.R_far (p := ⟨gb240, 1, none⟩) (Kd.R_far (p := ⟨gb240, 0, none⟩) (Kd.R_types HO_7.out BK240.out (by decide)) (fun _ hk => hk.2) (.int .i64 ((rd_T44 l2 ((rd_T49 l0 x13_1).f2)).f0))) (fun _ hk => hk.2) (.int .i64 ((rd_T44 l2 ((rd_T49 l0 x13_1).f2)).f1))) (fun _ hk => trivial)⟩, ⟨by repeat (first | (with_reducible first | exact HB.out | apply below_alloc | apply pw_below_drewN | apply below_drew1 | refine below_set ?_ GE235.out | refine below_set ?_ GE240.out) | exact HB.out)⟩⟩
                        · rw [if_neg c23] at H
                          have c23b0 : decide (0 ≤ ((rd_T44 l2 ((rd_T49 l0 x13_1).f2)).f0)) = false := decide_eq_false c23
                          clear c23
                          have H' := Aside0.mk H
                          clear H
                          have hcz44_0 : wc.cell? ⟨gb235, 0, none⟩ = some (.int .u8 ((rd_T49 l0 x13_1).f0)) := (blk_cell BK235.out 0).trans rfl
                          have hcz44_1 : wc.cell? ⟨gb235, 1, none⟩ = some (.slice A234_1 ((rd_T49 l0 x13_1).f1).length c234_1) := (blk_cell BK235.out 1).trans rfl
                          have hcz44_2 : wc.cell? ⟨gb235, 2, none⟩ = some (.int .i64 ((rd_T49 l0 x13_1).f2)) := (blk_cell BK235.out 2).trans rfl
                          have hfz44_0 := blk_frozen BK235.out 0
                          have hfz44_1 := blk_frozen BK235.out 1
                          have hfz44_2 := blk_frozen BK235.out 2
                          have p239 : 0 ≤ (((rd_T49 l0 x13_1).f2) : Int) := of_decide_eq_true (by first | (with_reducible assumption) | assumption)
                          have q239 : ((rd_T49 l0 x13_1).f2) < (l2.length : Int) := of_decide_eq_true (by first | (with_reducible assumption) | assumption)
                          obtain ⟨ad239, e239, hx239_0, hx239_1⟩ := at_T44 HR2.out ((rd_T49 l0 x13_1).f2) p239 q239
                          cases e239
                          replace hx239_0 := (HB.out.cell (World.block_lt_of_cell? w _ hx239_0)).trans hx239_0
                          replace hx239_1 := (HB.out.cell (World.block_lt_of_cell? w _ hx239_1)).trans hx239_1
                          replace p239 := eq_true p239
                          replace q239 := eq_true q239
                          go_wp2_with (first | ((with_reducible refine gate_dst (N := 10) rfl ?_); (try (refine gate_guard (by rfl) ?_; dsimp only)); refine box_event ?hg (N := 10) ?hd (cs := #[.int .i64 0, .int .i64 0]) (t := 44) ?hr ?_; (case hd => rfl); (case hg => rfl); (case hr => first | (go_simp; done) | (go_simp; rfl)); intro gb240 hg w45 hbox hb; have n0_ := Aside0.mk (Kd.R_below (by (with_reducible repeat (first | apply Kd.R_alloc | apply Kd.R_drewN | apply Kd.R_drew)); exact HO_7.out) hb); have n1_ := Aside0.mk (blk_below (g := gb235) (o := .cells #[.int .u8 ((rd_T49 l0 x13_1).f0), .slice A234_1 ((rd_T49 l0 x13_1).f1).length c234_1, .int .i64 ((rd_T49 l0 x13_1).f2)] 49 (0, 0)) (by (with_reducible repeat (first | refine blk_drewN ?_ _ | refine blk_drew ?_ | refine blk_alloc ?_ _)); exact BK235.out) hb); have n2_ := Aside0.mk (below_step (by repeat (first | (with_reducible first | exact HB.out | apply below_alloc | apply pw_below_drewN | apply below_drew1 | refine below_set ?_ GE235.out) | exact HB.out)) hb); have n3_ := Aside0.mk (hbox); have n4_ := Aside0.mk ((by rw [hg]; exact (below_size (by repeat (first | (with_reducible first | exact HB.out | apply below_alloc | apply pw_below_drewN | apply below_drew1 | refine below_set ?_ GE235.out) | exact HB.out))) : w.heap.size ≤ gb240)); have n5_ := Aside0.mk ((by rw [hg]; exact (below_size (by repeat (first | (with_reducible first | exact HB.out | apply below_alloc | apply pw_below_drewN | apply below_drew1 | refine below_set ?_ GE235.out) | exact HB.out))) : w.heap.size ≤ gb240)); have n6_ := Aside0.mk ((by rw [hg]; exact Nat.ne_of_lt (blk_lt (g := gb235) (o := .cells #[.int .u8 ((rd_T49 l0 x13_1).f0), .slice A234_1 ((rd_T49 l0 x13_1).f1).length c234_1, .int .i64 ((rd_T49 l0 x13_1).f2)] 49 (0, 0)) (by (with_reducible repeat (first | refine blk_drewN ?_ _ | refine blk_drew ?_ | refine blk_alloc ?_ _)); exact BK235.out)) : gb235 ≠ gb240)); have n7_ := Aside0.mk ((by rw [hg]; exact Nat.ne_of_gt (blk_lt (g := gb235) (o := .cells #[.int .u8 ((rd_T49 l0 x13_1).f0), .slice A234_1 ((rd_T49 l0 x13_1).f1).length c234_1, .int .i64 ((rd_T49 l0 x13_1).f2)] 49 (0, 0)) (by (with_reducible repeat (first | refine blk_drewN ?_ _ | refine blk_drew ?_ | refine blk_alloc ?_ _)); exact BK235.out)) : gb240 ≠ gb235)); clear HO_7; clear BK235; clear HB; have HO_7 := n0_; have BK235 := n1_; have HB := n2_; have BK240 := n3_; have GW240 := n4_; have GE240 := n5_; have NB235_240 := n6_; have NB240_235 := n7_; clear n0_ n1_ n2_ n3_ n4_ n5_ n6_ n7_; clear hb hbox hg; have hnb46 := NB240_235.out; have hnc46 := NB235_240.out; have hcz47_0 : w45.cell? ⟨gb240, 0, none⟩ = some (.int .i64 0) := (blk_cell BK240.out 0).trans rfl; have hcz47_1 : w45.cell? ⟨gb240, 1, none⟩ = some (.int .i64 0) := (blk_cell BK240.out 1).trans rfl; have hfz47_0 := blk_frozen BK240.out 0; have hfz47_1 := blk_frozen BK240.out 1))
                          go_roundg kj11
                          case measure => have := HK1.out; have := HJ11.out; omega
                          case rel => exact ⟨(x7_1), (wrap64 (x13_1 + 1)), (by first | rfl | (simp; done) | (simp [*]; done)), H', ⟨by have := HK1.out; have := HJ11.out; omega⟩, ⟨by (with_reducible repeat (first | apply Kd.R_alloc | apply Kd.R_drewN | apply Kd.R_drew)); exact Kd.R_mono (Kd.R_far (p := ⟨gb240, 1, none⟩) (Kd.R_far (p := ⟨gb240, 0, none⟩) (Kd.R_types HO_7.out BK240.out (by decide)) (fun _ hk => hk.2) (.int .i64 ((rd_T44 l2 ((rd_T49 l0 x13_1).f2)).f0))) (fun _ hk => hk.2) (.int .i64 ((rd_T44 l2 ((rd_T49 l0 x13_1).f2)).f1))) (fun _ hk => trivial)⟩, ⟨by repeat (first | (with_reducible first | exact HB.out | apply below_alloc | apply pw_below_drewN | apply below_drew1 | refine below_set ?_ GE235.out | refine below_set ?_ GE240.out) | exact HB.out)⟩⟩
                      · rw [if_neg c22] at H
                        exact absurd H (by simp)
                    · rw [if_neg c21] at H
                      exact absurd H (by simp)
                  · replace c20 := Bool.eq_false_iff.mpr c20
                    subst c20
                    have H1 : (subst_Expand.l0 kj11 l1 l2 x7_1 l0 (l0.length : Int) (wrap64 (x13_1 + 1))) = some r := by rw [if_neg (show ¬ (false = true) by decide)] at H; exact H
                    clear H
                    have H := H1
                    clear H1
                    have H' := Aside0.mk H
                    clear H
                    go_wp2
                    go_roundg kj11
                    case measure => have := HK1.out; have := HJ11.out; omega
                    case rel => exact ⟨(x7_1), (wrap64 (x13_1 + 1)), (by first | rfl | (simp; done) | (simp [*]; done)), H', ⟨by have := HK1.out; have := HJ11.out; omega⟩, ⟨by (with_reducible repeat (first | apply Kd.R_alloc | apply Kd.R_drewN | apply Kd.R_drew)); exact HO_7.out⟩, ⟨by repeat (first | (with_reducible first | exact HB.out | apply below_alloc | apply pw_below_drewN | apply below_drew1 | refine below_set ?_ GE235.out) | exact HB.out)⟩⟩
          · rw [if_neg c6] at H
            exact absurd H (by simp)
        · rw [if_neg c5] at H
          exact absurd H (by simp)
      · rw [if_neg c4] at H
        have c4b0 : decide (x13_1 < (l0.length : Int)) = false := decide_eq_false c4
        clear c4
        obtain rfl := Option.some.inj H
        go_wp2
        go_ret
        exact ⟨_, by first | rfl | (simp [errW_none, errW_some] <;> rfl) | (simp [*, errW_none, errW_some] <;> rfl), by (with_reducible repeat (first | apply Kd.R_alloc | apply Kd.R_drewN | apply Kd.R_drew)); exact HO_7.out, by repeat (first | (with_reducible first | exact HB.out | apply below_alloc | apply pw_below_drewN | apply below_drew1) | exact HB.out)⟩

/-! ### redactorlaw14_SubstAll: function 5 -/
def redactorlaw14_SubstAll.l0 : Nat → Int → List Int → Int → Int → ByteArray → List Int → Int → Option (Bool)
  | 0, _, _, _, _, _, _, _ => none
  | k + 1, x1, x9, x10, x11, x12, x13, x14 => if x14 < (wrap64 (Int.tmod x1 6)) then (if x12.size + 4 ≤ 9223372036854775807 then (if 0 ≤ x10 then (if x10 ≤ x11 then (if x11 ≤ (x9.length : Int) then ((some ((x9.take (x11 : Int).toNat).drop (x10 : Int).toNat : List Int)).bind fun y248 => (if x13.length + y248.length < 35184372088832 then ((some (x13 ++ y248 : List Int)).bind fun y253 => (if y253.length + x9.length < 35184372088832 then ((some (y253 ++ x9 : List Int)).bind fun y256 => (if y256.length < 35184372088832 then (redactorlaw14_SubstAll.l0 k x1 x9 x10 x11 (x12 ++ (⟨#[38, 92, 49, 45]⟩ : ByteArray)) (y256 ++ [45]) (wrap64 (x14 + 1))) else (none))) else (none))) else (none))) else (none)) else (none)) else (none)) else (none)) else (if x12.size + 1 ≤ 9223372036854775807 then ((redactorref01_Of.f k (x12 ++ (⟨#[47]⟩ : ByteArray))).bind fun t262 => ((subst_Parse.f t262 0 47 1).bind fun bt265 => ((redactorlaw14_known.f k).bind fun t271 => (if t271 = true then (if bt265.2.2.1 = 0 then ((subst_Expand.f k bt265.1 x9 (([(⟨x10, x11⟩ : S44), (⟨0, (x9.length : Int)⟩ : S44)] : List (S44)))).bind fun t275 => ((redactorref01_Same.f k t275 x13).bind fun t278 => (some t278))) else (some false)) else (some false))))) else (none))
def redactorlaw14_SubstAll.f (k : Nat) (l0 : List Int) (a1 : Int) (a2 : Int) (a3 : Int) : Option (Bool) := (redactorlaw01_Cells.f k l0).bind fun t245 => (if (wrap64 ((t245.length : Int) + 1)) = 0 then (none) else (if (wrap64 ((wrap64 ((t245.length : Int) - (Int.tmod (wrap64 (a2)) (wrap64 ((t245.length : Int) + 1))))) + 1)) = 0 then (none) else (redactorlaw14_SubstAll.l0 k a1 t245 (Int.tmod (wrap64 (a2)) (wrap64 ((t245.length : Int) + 1))) (wrap64 ((Int.tmod (wrap64 (a2)) (wrap64 ((t245.length : Int) + 1))) + (Int.tmod (wrap64 (a3)) (wrap64 ((wrap64 ((t245.length : Int) - (Int.tmod (wrap64 (a2)) (wrap64 ((t245.length : Int) + 1))))) + 1))))) (⟨#[]⟩ : ByteArray) ([] : List Int) 0)))
theorem redactorlaw14_SubstAll.mono_l : ∀ k, (∀ y0 y1 y2 y3 y4 y5 y6, LeO (redactorlaw14_SubstAll.l0 k y0 y1 y2 y3 y4 y5 y6) (redactorlaw14_SubstAll.l0 (k + 1) y0 y1 y2 y3 y4 y5 y6))
  | 0 => fun _ _ _ _ _ _ _ r h => by simp [redactorlaw14_SubstAll.l0] at h
  | k + 1 => by
    have ih0 := redactorlaw14_SubstAll.mono_l k
    · intro y0 y1 y2 y3 y4 y5 y6
      unfold redactorlaw14_SubstAll.l0
      repeat' first
      | (with_reducible exact ih0 _ _ _ _ _ _ _)
      | (with_reducible exact redactorlaw01_Cells.mono _ _)
      | (with_reducible exact redactorlaw14_known.mono _)
      | (with_reducible exact redactorref01_Of.mono _ _)
      | (with_reducible exact redactorref01_Same.mono _ _ _)
      | (with_reducible exact subst_Expand.mono _ _ _ _)
      | (with_reducible exact LeO.refl _)
      | (with_reducible exact LeO.none _)
      | (with_reducible refine LeO.ite ?_ ?_)
      | (with_reducible refine LeO.bind ?_ (fun _ => ?_))
      | exact ih0 _ _ _ _ _ _ _
      | exact redactorlaw01_Cells.mono _ _
      | exact redactorlaw14_known.mono _
      | exact redactorref01_Of.mono _ _
      | exact redactorref01_Same.mono _ _ _
      | exact subst_Expand.mono _ _ _ _
      | exact LeO.none _
      | refine LeO.ite ?_ ?_
      | refine LeO.bind ?_ (fun _ => ?_)
theorem redactorlaw14_SubstAll.mono : ∀ a0 a1 a2 a3 k, LeO (redactorlaw14_SubstAll.f k a0 a1 a2 a3) (redactorlaw14_SubstAll.f (k + 1) a0 a1 a2 a3) := by
  intro a0 a1 a2 a3 k
  have ih0 := redactorlaw14_SubstAll.mono_l k
  unfold redactorlaw14_SubstAll.f
  repeat' first
      | (with_reducible exact ih0 _ _ _ _ _ _ _)
      | (with_reducible exact redactorlaw01_Cells.mono _ _)
      | (with_reducible exact redactorlaw14_known.mono _)
      | (with_reducible exact redactorref01_Of.mono _ _)
      | (with_reducible exact redactorref01_Same.mono _ _ _)
      | (with_reducible exact subst_Expand.mono _ _ _ _)
      | (with_reducible exact LeO.refl _)
      | (with_reducible exact LeO.none _)
      | (with_reducible refine LeO.ite ?_ ?_)
      | (with_reducible refine LeO.bind ?_ (fun _ => ?_))
      | exact ih0 _ _ _ _ _ _ _
      | exact redactorlaw01_Cells.mono _ _
      | exact redactorlaw14_known.mono _
      | exact redactorref01_Of.mono _ _
      | exact redactorref01_Same.mono _ _ _
      | exact subst_Expand.mono _ _ _ _
      | exact LeO.none _
      | refine LeO.ite ?_ ?_
      | refine LeO.bind ?_ (fun _ => ?_)
set_option maxHeartbeats 8000000 in
set_option maxRecDepth 100000 in
theorem redactorlaw14_SubstAll.calls (k : Nat) (A0 : Option Addr) (c0 : Nat) (l0 : List Int) (a1 : Int) (a2 : Int) (a3 : Int) (r : Bool) (w : World) (hr0 : Kd.C (Kd.int .u8) w A0 l0.length l0) (hc0 : l0.length ≤ c0) (h : redactorlaw14_SubstAll.f k l0 a1 a2 a3 = some r) :
    Calls Try.prog 5 #[.slice A0 l0.length c0, .int .u8 a1, .int .u8 a2, .int .u8 a3] w fun e w' => e = .returned (.bool r) ∧ Below w.heap.size w w' := by
  have hu44 := Try.underlying44
  have HR0 := Aside0.mk hr0
  have HC0 := Aside0.mk hc0
  clear hr0 hc0
  have HB := Aside0.mk (Below.refl w.heap.size w)
  have H : ((redactorlaw01_Cells.f k l0).bind fun t245 => (if (wrap64 ((t245.length : Int) + 1)) = 0 then (none) else (if (wrap64 ((wrap64 ((t245.length : Int) - (Int.tmod (wrap64 (a2)) (wrap64 ((t245.length : Int) + 1))))) + 1)) = 0 then (none) else (redactorlaw14_SubstAll.l0 k a1 t245 (Int.tmod (wrap64 (a2)) (wrap64 ((t245.length : Int) + 1))) (wrap64 ((Int.tmod (wrap64 (a2)) (wrap64 ((t245.length : Int) + 1))) + (Int.tmod (wrap64 (a3)) (wrap64 ((wrap64 ((t245.length : Int) - (Int.tmod (wrap64 (a2)) (wrap64 ((t245.length : Int) + 1))))) + 1))))) (⟨#[]⟩ : ByteArray) ([] : List Int) 0)))) = some r := h
  clear h
  replace H := Option.bind_eq_some_iff.mp H
  obtain ⟨t245, A50, H⟩ := H
  replace H : (if (wrap64 ((t245.length : Int) + 1)) = 0 then (none) else (if (wrap64 ((wrap64 ((t245.length : Int) - (Int.tmod (wrap64 (a2)) (wrap64 ((t245.length : Int) + 1))))) + 1)) = 0 then (none) else (redactorlaw14_SubstAll.l0 k a1 t245 (Int.tmod (wrap64 (a2)) (wrap64 ((t245.length : Int) + 1))) (wrap64 ((Int.tmod (wrap64 (a2)) (wrap64 ((t245.length : Int) + 1))) + (Int.tmod (wrap64 (a3)) (wrap64 ((wrap64 ((t245.length : Int) - (Int.tmod (wrap64 (a2)) (wrap64 ((t245.length : Int) + 1))))) + 1))))) (⟨#[]⟩ : ByteArray) ([] : List Int) 0))) = some r := H
  have A5 := Aside0.mk A50
  clear A50
  by_cases c6 : (wrap64 ((t245.length : Int) + 1)) = 0
  · rw [if_pos c6] at H
    exact absurd H (by simp)
  · rw [if_neg c6] at H
    have c6b0 : ((wrap64 ((t245.length : Int) + 1)) == 0) = false := beq_eq_false_iff_ne.mpr c6
    have c6b1 : ((wrap64 ((t245.length : Int) + 1)) != 0) = true := bne_iff_ne.mpr c6
    by_cases c7 : (wrap64 ((wrap64 ((t245.length : Int) - (Int.tmod (wrap64 (a2)) (wrap64 ((t245.length : Int) + 1))))) + 1)) = 0
    · rw [if_pos c7] at H
      exact absurd H (by simp)
    · rw [if_neg c7] at H
      have c7b0 : ((wrap64 ((wrap64 ((t245.length : Int) - (Int.tmod (wrap64 (a2)) (wrap64 ((t245.length : Int) + 1))))) + 1)) == 0) = false := beq_eq_false_iff_ne.mpr c7
      have c7b1 : ((wrap64 ((wrap64 ((t245.length : Int) - (Int.tmod (wrap64 (a2)) (wrap64 ((t245.length : Int) + 1))))) + 1)) != 0) = true := bne_iff_ne.mpr c7
      have H' := Aside0.mk H
      clear H
      go_enter Try.func5, Try.ntmps5
      go_wp2_with (first | ((with_reducible refine gate_callee (f := 13) rfl ?_); refine goesL_ (some 20) rfl rfl Try.func13 (by kernel_rfl) rfl #[.slice A0 l0.length c0] rfl (by (try simp only [List.map_toArray, List.map_cons, List.map_nil]); first | done | rfl | (simp only [List.length_drop, List.length_take]; rfl)) ?_; (with_reducible refine (redactorlaw01_Cells.calls k _ _ l0 t245 _ ?side1 ?side2 A5.out).mono ?_); (case side1 => repeat (first | exact HR0.out | (with_reducible refine Kd.C_alloc ?_ _) | (with_reducible refine Kd.C_drewN ?_ _) | (with_reducible refine Kd.C_drew ?_))); (case side2 => exact HC0.out); rintro e w8 ⟨v246, rfl, ho0, hb⟩; refine ⟨_, rfl, ?_⟩; have n0_ := Aside0.mk (Kd.R_lower ho0 (below_size (by repeat (first | (with_reducible first | exact HB.out | apply below_alloc | apply pw_below_drewN | apply below_drew1) | exact HB.out)))); have n1_ := Aside0.mk (below_step (by repeat (first | (with_reducible first | exact HB.out | apply below_alloc | apply pw_below_drewN | apply below_drew1) | exact HB.out)) hb); clear HB; have HO247 := n0_; have HB := n1_; clear n0_ n1_; (try clear hb); (try clear hb2); (try clear hk); (try clear hi); (try clear ho0); obtain ⟨Ao9, co9, eo9⟩ := Kd.R_slice HO247.out; subst eo9))
      go_loopg [12, 13, 14] k (fun kq v12 v13 v14 w' => ∃ (x12_1 : ByteArray) (x13_1 : List Int) (x14_1 : Int), v12 = .string x12_1 ∧ v14 = .int .i64 x14_1 ∧ Aside0 (redactorlaw14_SubstAll.l0 kq a1 t245 (Int.tmod (wrap64 (a2)) (wrap64 ((t245.length : Int) + 1))) (wrap64 ((Int.tmod (wrap64 (a2)) (wrap64 ((t245.length : Int) + 1))) + (Int.tmod (wrap64 (a3)) (wrap64 ((wrap64 ((t245.length : Int) - (Int.tmod (wrap64 (a2)) (wrap64 ((t245.length : Int) + 1))))) + 1))))) x12_1 x13_1 x14_1 = some r) ∧ Aside0 (kq ≤ k) ∧ Aside0 (Kd.R (Kd.int .i32) 24 w' w.heap.size (fun k_ => some k_ ≠ (v13 : Value).ownBlock) (.slice Ao9 t245.length co9) t245) ∧ Aside0 (Kd.R (Kd.int .i32) 24 w' w.heap.size (fun k_ => some k_ ≠ ((.slice Ao9 t245.length co9) : Value).ownBlock) v13 x13_1) ∧ Aside0 (Below w.heap.size w w'))
      case atStart => exact ⟨((⟨#[]⟩ : ByteArray)), (([] : List Int)), (0), (by first | rfl | (simp; done) | (simp [*]; done)), (by first | rfl | (simp; done) | (simp [*]; done)), H', ⟨Nat.le_refl _⟩, ⟨by (with_reducible repeat (first | apply Kd.R_alloc | apply Kd.R_drewN | apply Kd.R_drew)); exact Kd.R_mono HO247.out (fun _ hk => (by simp [Value.ownBlock]))⟩, ⟨by first | exact Kd.R_nil _ _ _ _ _ | exact Kd.N_nil _ _ _ _ _ | exact Kd.V_nil _ _ _ _ _ | exact Kd.Q_nil _ _ _ _ _ | exact Kd.S_nil _ _ _ _ _⟩, ⟨by repeat (first | (with_reducible first | exact HB.out | apply below_alloc | apply pw_below_drewN | apply below_drew1) | exact HB.out)⟩⟩
      case round =>
        clear H'
        try clear c1
        try clear p2
        try clear c5
        try clear c6
        try clear c6b0
        try clear c6b1
        try clear p6
        try clear c7
        try clear c7b0
        try clear c7b1
        obtain ⟨x12_1, x13_1, x14_1, rfl, rfl, HA, HK1, HO_9, HO_13, HB⟩ := hrel
        cases gk with
        | zero => exact absurd HA.out (by simp [redactorlaw14_SubstAll.l0])
        | succ k1 =>
          have H := HA.out
          clear HA
          simp only [redactorlaw14_SubstAll.l0] at H
          by_cases c10 : x14_1 < (wrap64 (Int.tmod a1 6))
          · rw [if_pos c10] at H
            have c10b0 : decide (x14_1 < (wrap64 (Int.tmod a1 6))) = true := decide_eq_true c10
            clear c10
            by_cases c11 : x12_1.size + 4 ≤ 9223372036854775807
            · rw [if_pos c11] at H
              have c11b0 := eq_true c11
              have c11b1 : decide (x12_1.size + 4 ≤ 9223372036854775807) = true := decide_eq_true c11
              try have c11b2 : (9223372036854775807 < x12_1.size + 4) = False := eq_false (Nat.not_lt.2 c11)
              obtain ⟨ji12, hji12⟩ : ∃ j_ : Int, (Int.tmod (wrap64 (a2)) (wrap64 ((t245.length : Int) + 1))) = j_ := ⟨_, rfl⟩
              replace H : (if 0 ≤ (ji12) then (if (ji12) ≤ (wrap64 ((ji12) + (Int.tmod (wrap64 (a3)) (wrap64 ((wrap64 ((t245.length : Int) - (ji12))) + 1))))) then (if (wrap64 ((ji12) + (Int.tmod (wrap64 (a3)) (wrap64 ((wrap64 ((t245.length : Int) - (ji12))) + 1))))) ≤ (t245.length : Int) then ((some ((t245.take ((wrap64 ((ji12) + (Int.tmod (wrap64 (a3)) (wrap64 ((wrap64 ((t245.length : Int) - (ji12))) + 1))))) : Int).toNat).drop ((ji12) : Int).toNat : List Int)).bind fun y248 => (if x13_1.length + y248.length < 35184372088832 then ((some (x13_1 ++ y248 : List Int)).bind fun y253 => (if y253.length + t245.length < 35184372088832 then ((some (y253 ++ t245 : List Int)).bind fun y256 => (if y256.length < 35184372088832 then (redactorlaw14_SubstAll.l0 k1 a1 t245 (ji12) (wrap64 ((ji12) + (Int.tmod (wrap64 (a3)) (wrap64 ((wrap64 ((t245.length : Int) - (ji12))) + 1))))) (x12_1 ++ (⟨#[38, 92, 49, 45]⟩ : ByteArray)) (y256 ++ [45]) (wrap64 (x14_1 + 1))) else (none))) else (none))) else (none))) else (none)) else (none)) else (none)) = some r := by first | (rw [hji12] at H; exact H) | (simp only [hji12] at H ⊢; exact H)
              (try rw [hji12] at c7b0)
              (try rw [hji12] at c7b1)
              by_cases c13 : 0 ≤ (ji12)
              · rw [if_pos c13] at H
                have c13b0 := eq_true c13
                have c13b1 : decide (0 ≤ (ji12)) = true := decide_eq_true c13
                clear c13
                by_cases c14 : (ji12) ≤ (wrap64 ((ji12) + (Int.tmod (wrap64 (a3)) (wrap64 ((wrap64 ((t245.length : Int) - (ji12))) + 1)))))
                · rw [if_pos c14] at H
                  have c14b0 := eq_true c14
                  have c14b1 : decide ((ji12) ≤ (wrap64 ((ji12) + (Int.tmod (wrap64 (a3)) (wrap64 ((wrap64 ((t245.length : Int) - (ji12))) + 1)))))) = true := decide_eq_true c14
                  by_cases c15 : (wrap64 ((ji12) + (Int.tmod (wrap64 (a3)) (wrap64 ((wrap64 ((t245.length : Int) - (ji12))) + 1))))) ≤ (t245.length : Int)
                  · rw [if_pos c15] at H
                    have c15b0 := eq_true c15
                    have c15b1 : decide ((wrap64 ((ji12) + (Int.tmod (wrap64 (a3)) (wrap64 ((wrap64 ((t245.length : Int) - (ji12))) + 1))))) ≤ (t245.length : Int)) = true := decide_eq_true c15
                    obtain ⟨y248, hy248⟩ : ∃ y_ : List Int, y_ = ((t245.take ((wrap64 ((ji12) + (Int.tmod (wrap64 (a3)) (wrap64 ((wrap64 ((t245.length : Int) - (ji12))) + 1))))) : Int).toNat).drop ((ji12) : Int).toNat) := ⟨_, rfl⟩
                    replace H : (if x13_1.length + y248.length < 35184372088832 then ((some (x13_1 ++ y248 : List Int)).bind fun y253 => (if y253.length + t245.length < 35184372088832 then ((some (y253 ++ t245 : List Int)).bind fun y256 => (if y256.length < 35184372088832 then (redactorlaw14_SubstAll.l0 k1 a1 t245 (ji12) (wrap64 ((ji12) + (Int.tmod (wrap64 (a3)) (wrap64 ((wrap64 ((t245.length : Int) - (ji12))) + 1))))) (x12_1 ++ (⟨#[38, 92, 49, 45]⟩ : ByteArray)) (y256 ++ [45]) (wrap64 (x14_1 + 1))) else (none))) else (none))) else (none)) = some r := by first | (rw [hy248]; with_reducible exact H) | (have H2_ := (Option.bind_some _ _).symm.trans H; rw [hy248]; with_reducible exact H2_) | (have H2_ := (Option.bind_some _ _).symm.trans H; with_reducible exact H2_) | with_reducible exact H | (rw [hy248]; exact H) | exact H
                    have Ny248 := Aside0.mk hy248
                    clear hy248
                    by_cases c16 : x13_1.length + y248.length < 35184372088832
                    · rw [if_pos c16] at H
                      have LMc16 := Aside0.mk c16
                      clear c16
                      obtain ⟨y253, hy253⟩ : ∃ y_ : List Int, y_ = (x13_1 ++ y248) := ⟨_, rfl⟩
                      replace H : (if y253.length + t245.length < 35184372088832 then ((some (y253 ++ t245 : List Int)).bind fun y256 => (if y256.length < 35184372088832 then (redactorlaw14_SubstAll.l0 k1 a1 t245 (ji12) (wrap64 ((ji12) + (Int.tmod (wrap64 (a3)) (wrap64 ((wrap64 ((t245.length : Int) - (ji12))) + 1))))) (x12_1 ++ (⟨#[38, 92, 49, 45]⟩ : ByteArray)) (y256 ++ [45]) (wrap64 (x14_1 + 1))) else (none))) else (none)) = some r := by first | (rw [hy253]; with_reducible exact H) | (have H2_ := (Option.bind_some _ _).symm.trans H; rw [hy253]; with_reducible exact H2_) | (have H2_ := (Option.bind_some _ _).symm.trans H; with_reducible exact H2_) | with_reducible exact H | (rw [hy253]; exact H) | exact H
                      have Ny253 := Aside0.mk hy253
                      clear hy253
                      by_cases c17 : y253.length + t245.length < 35184372088832
                      · rw [if_pos c17] at H
                        have LMc17 := Aside0.mk c17
                        clear c17
                        obtain ⟨y256, hy256⟩ : ∃ y_ : List Int, y_ = (y253 ++ t245) := ⟨_, rfl⟩
                        replace H : (if y256.length < 35184372088832 then (redactorlaw14_SubstAll.l0 k1 a1 t245 (ji12) (wrap64 ((ji12) + (Int.tmod (wrap64 (a3)) (wrap64 ((wrap64 ((t245.length : Int) - (ji12))) + 1))))) (x12_1 ++ (⟨#[38, 92, 49, 45]⟩ : ByteArray)) (y256 ++ [45]) (wrap64 (x14_1 + 1))) else (none)) = some r := by first | (rw [hy256]; with_reducible exact H) | (have H2_ := (Option.bind_some _ _).symm.trans H; rw [hy256]; with_reducible exact H2_) | (have H2_ := (Option.bind_some _ _).symm.trans H; with_reducible exact H2_) | with_reducible exact H | (rw [hy256]; exact H) | exact H
                        have Ny256 := Aside0.mk hy256
                        clear hy256
                        by_cases c18 : y256.length < 35184372088832
                        · rw [if_pos c18] at H
                          have LMc18 := Aside0.mk c18
                          clear c18
                          obtain ⟨y259, hy259⟩ : ∃ y_ : List Int, y_ = (y256 ++ [45]) := ⟨_, rfl⟩
                          replace H : (redactorlaw14_SubstAll.l0 k1 a1 t245 (ji12) (wrap64 ((ji12) + (Int.tmod (wrap64 (a3)) (wrap64 ((wrap64 ((t245.length : Int) - (ji12))) + 1))))) (x12_1 ++ (⟨#[38, 92, 49, 45]⟩ : ByteArray)) y259 (wrap64 (x14_1 + 1))) = some r := by first | (rw [hy259]; with_reducible exact H) | (have H2_ := (Option.bind_some _ _).symm.trans H; rw [hy259]; with_reducible exact H2_) | (have H2_ := (Option.bind_some _ _).symm.trans H; with_reducible exact H2_) | with_reducible exact H | (rw [hy259]; exact H) | exact H
                          have Ny259 := Aside0.mk hy259
                          clear hy259
                          have H' := Aside0.mk H
                          clear H
                          have q19 : ((wrap64 ((ji12) + (Int.tmod (wrap64 (a3)) (wrap64 ((wrap64 ((t245.length : Int) - (ji12))) + 1))))) : Int) ≤ ((t245.length : Int) : Int) := of_decide_eq_true (by first | (with_reducible assumption) | assumption)
                          obtain ⟨i019, hi019, _, hsz19, _⟩ := info_parts info24
                          have hroom19 : t245.length ≤ co9 := (Kd.R_reads' HO_9.out).2.1
                          have hC19 : Kd.F (Kd.int .i32) _ _ Ao9 t245.length t245 := (Kd.V_at (base := w.heap.size) (Kd.R_V HO_9.out)).2.2
                          have ql19 : ((ji12) : Int) ≤ ((wrap64 ((ji12) + (Int.tmod (wrap64 (a3)) (wrap64 ((wrap64 ((t245.length : Int) - (ji12))) + 1))))) : Int) := of_decide_eq_true (by first | (with_reducible assumption) | assumption)
                          have q019 : (0 : Int) ≤ ((ji12) : Int) := of_decide_eq_true (by first | (with_reducible assumption) | assumption)
                          have hcut19 := cut_mid (P := Try.prog) 23 24 .i64 .i64 Try.underlying23 hi019 1 hsz19 Ao9 t245.length co9 (ji12) (wrap64 ((ji12) + (Int.tmod (wrap64 (a3)) (wrap64 ((wrap64 ((t245.length : Int) - (ji12))) + 1))))) q019 ql19 q19 hroom19
                          have hr19 := Kd.F_mid (lo := ((ji12) : Int).toNat) (hi := ((wrap64 ((ji12) + (Int.tmod (wrap64 (a3)) (wrap64 ((wrap64 ((t245.length : Int) - (ji12))) + 1))))) : Int).toNat) (c := co9) hC19 (by omega) (by omega) hroom19
                          obtain ⟨A19, hA19⟩ : ∃ A1, A1 = (if co9 = ((ji12) : Int).toNat then Ao9 else (Ao9 : Option Addr).map (·.add (((ji12) : Int).toNat * 1))) := ⟨_, rfl⟩
                          obtain ⟨c19, hc19⟩ : ∃ c1, c1 = co9 - ((ji12) : Int).toNat := ⟨_, rfl⟩
                          have hy19 : y248.length = ((wrap64 ((ji12) + (Int.tmod (wrap64 (a3)) (wrap64 ((wrap64 ((t245.length : Int) - (ji12))) + 1))))) : Int).toNat - ((ji12) : Int).toNat := (by rw [Ny248.out, List.length_drop, List.length_take] <;> omega)
                          rw [show ((t245).take ((wrap64 ((ji12) + (Int.tmod (wrap64 (a3)) (wrap64 ((wrap64 ((t245.length : Int) - (ji12))) + 1))))) : Int).toNat).drop ((ji12) : Int).toNat = y248 from Ny248.out.symm] at hr19
                          replace hr19 : Kd.F (Kd.int .i32) _ _ A19 y248.length y248 := (by rw [hA19]; exact hr19)
                          rw [← hy19, ← hA19, ← hc19] at hcut19
                          have HO252 := Aside0.mk (show Kd.V (Kd.int .i32) 24 _ w.heap.size _ (.slice A19 y248.length c19) y248 from Kd.V_mk (by rw [hy19, hc19]; exact Nat.sub_le_sub_right (Nat.le_trans (by omega) hroom19) _) hr19)
                          have HC252 := Aside0.mk (show y248.length ≤ c19 from by rw [hy19, hc19]; exact Nat.sub_le_sub_right (Nat.le_trans (by omega) hroom19) _)
                          clear hr19 hC19 hroom19 hi019 hsz19 hc19
                          have KY19 := Aside0.mk hy19
                          have KA19 := Aside0.mk hA19
                          clear hy19 hA19
                          replace q19 := eq_true q19
                          go_wp2_with (first | ((with_reducible refine gate_builtin (b := .append) (xs := #[.tmp 46, .tmp 50]) rfl ?_); (try (refine gate_guard (by rfl) ?_; dsimp only)); at_builtin; refine Kd.R_append_rows (Kd.int .i32) (w0 := w) w.heap.size rfl (.tmp 46) (.tmp 50) 23 24 (.int .i32 0) 4 rfl Try.underlying23 info24 rfl (by decide) (by omega) u13 x13_1 y248 _ _ _ (fun k_ => some k_ ≠ (.slice Ao9 t245.length co9 : Value).ownBlock) (fun _ => False) rfl rfl ?aO ?aR (fun _ _ h => h) (fun _ h => h.elim) ?aF ?aB ?aS ?aL ?_; (case aR => repeat (first | exact (Kd.V_reads' HO252.out).2.2 | (with_reducible refine Kd.C_alloc ?_ _) | (with_reducible refine Kd.C_drewN ?_ _) | (with_reducible refine Kd.C_drew ?_))); (case aB => exact (by repeat (first | (with_reducible first | exact HB.out | apply below_alloc | apply pw_below_drewN | apply below_drew1) | exact HB.out))); (case aF => exact (fun k_ hk => Kd.fresh' (Kd.R_lt (by (with_reducible repeat (first | apply Kd.R_alloc | apply Kd.R_drewN | apply Kd.R_drew)); exact HO_9.out)) k_ hk)); (case aO => exact (by (with_reducible repeat (first | apply Kd.R_alloc | apply Kd.R_drewN | apply Kd.R_drew)); exact HO_13.out)); (case aS => exact (below_size (by repeat (first | (with_reducible first | exact HB.out | apply below_alloc | apply pw_below_drewN | apply below_drew1) | exact HB.out)))); (case aL => have := LMc16.out; omega); intro v254 w20 ho hb hg hat; rw [← Ny253.out] at ho; have n0_ := Aside0.mk (Kd.R_after (ok := (fun _ => True)) (by (with_reducible repeat (first | apply Kd.R_alloc | apply Kd.R_drewN | apply Kd.R_drew)); exact Kd.R_mono HO_9.out (fun _ hk => ⟨trivial, hk⟩)) hg hat); have n1_ := Aside0.mk (Kd.V_afterv (ok := (fun _ => True)) (by (with_reducible repeat (first | apply Kd.V_alloc | apply Kd.V_drewN | apply Kd.V_drew)); exact Kd.V_mono HO252.out (fun _ hk => ⟨trivial, hk⟩)) hg hat); have n2_ := Aside0.mk (hb); have n3_ := Aside0.mk (ho); clear HO_9; clear HO252; clear HB; clear HO_13; have HO_9 := n0_; have HO252 := n1_; have HB := n2_; have HO255 := n3_; clear n0_ n1_ n2_ n3_; clear ho hb hg hat) | ((with_reducible refine gate_builtin (b := .append) (xs := #[.tmp 52, .tmp 53]) rfl ?_); (try (refine gate_guard (by rfl) ?_; dsimp only)); at_builtin; refine Kd.R_append_rows (Kd.int .i32) (w0 := w) w.heap.size rfl (.tmp 52) (.tmp 53) 23 24 (.int .i32 0) 4 rfl Try.underlying23 info24 rfl (by decide) (by omega) v254 y253 t245 _ _ _ (fun k_ => some k_ ≠ (.slice Ao9 t245.length co9 : Value).ownBlock) (fun _ => False) rfl rfl ?aO ?aR (fun _ _ h => h) (fun _ h => h.elim) ?aF ?aB ?aS ?aL ?_; (case aR => repeat (first | exact (Kd.R_reads' HO_9.out).2.2 | (with_reducible refine Kd.C_alloc ?_ _) | (with_reducible refine Kd.C_drewN ?_ _) | (with_reducible refine Kd.C_drew ?_))); (case aB => exact (by repeat (first | (with_reducible first | exact HB.out | apply below_alloc | apply pw_below_drewN | apply below_drew1) | exact HB.out))); (case aF => exact (fun k_ hk => Kd.fresh' (Kd.R_lt (by (with_reducible repeat (first | apply Kd.R_alloc | apply Kd.R_drewN | apply Kd.R_drew)); exact HO_9.out)) k_ hk)); (case aO => exact (by (with_reducible repeat (first | apply Kd.R_alloc | apply Kd.R_drewN | apply Kd.R_drew)); exact HO255.out)); (case aS => exact (below_size (by repeat (first | (with_reducible first | exact HB.out | apply below_alloc | apply pw_below_drewN | apply below_drew1) | exact HB.out)))); (case aL => have := LMc17.out; omega); intro v257 w21 ho hb hg hat; rw [← Ny256.out] at ho; have n0_ := Aside0.mk (Kd.R_after (ok := (fun _ => True)) (by (with_reducible repeat (first | apply Kd.R_alloc | apply Kd.R_drewN | apply Kd.R_drew)); exact HO_9.out) hg hat); have n1_ := Aside0.mk (Kd.V_afterv (ok := (fun _ => True)) (by (with_reducible repeat (first | apply Kd.V_alloc | apply Kd.V_drewN | apply Kd.V_drew)); exact HO252.out) hg hat); have n2_ := Aside0.mk (hb); have n3_ := Aside0.mk (ho); clear HO_9; clear HO252; clear HB; clear HO255; have HO_9 := n0_; have HO252 := n1_; have HB := n2_; have HO258 := n3_; clear n0_ n1_ n2_ n3_; clear ho hb hg hat) | ((with_reducible refine gate_builtin (b := .append) (xs := #[.tmp 55, .tmp 56]) rfl ?_); (try (refine gate_guard (by rfl) ?_; dsimp only)); at_builtin; refine Kd.R_append (Kd.int .i32) (w0 := w) w.heap.size rfl (.tmp 55) (.tmp 56) 23 24 (.int .i32 0) 4 rfl Try.underlying23 info24 rfl (by decide) (by omega) v257 y256 45 [.int .i32 45] (fun k_ => some k_ ≠ (.slice Ao9 t245.length co9 : Value).ownBlock) (fun _ => False) rfl rfl ?aP (fun _ hk => hk.elim) ?aF ?aO ?aB ?aS ?aL ?_; (case aP => exact rfl); (case aB => exact (by repeat (first | (with_reducible first | exact HB.out | apply below_alloc | apply pw_below_drewN | apply below_drew1) | exact HB.out))); (case aF => exact (fun k_ hk => Kd.fresh' (Kd.R_lt (by (with_reducible repeat (first | apply Kd.R_alloc | apply Kd.R_drewN | apply Kd.R_drew)); exact HO_9.out)) k_ hk)); (case aO => exact (by (with_reducible repeat (first | apply Kd.R_alloc | apply Kd.R_drewN | apply Kd.R_drew)); exact HO258.out)); (case aS => exact (below_size (by repeat (first | (with_reducible first | exact HB.out | apply below_alloc | apply pw_below_drewN | apply below_drew1) | exact HB.out)))); (case aL => have := LMc18.out; omega); intro v260 w22 ho hb hg hat; rw [← Ny259.out] at ho; have n0_ := Aside0.mk (Kd.R_after (ok := (fun _ => True)) (by (with_reducible repeat (first | apply Kd.R_alloc | apply Kd.R_drewN | apply Kd.R_drew)); exact HO_9.out) hg hat); have n1_ := Aside0.mk (Kd.V_afterv (ok := (fun _ => True)) (by (with_reducible repeat (first | apply Kd.V_alloc | apply Kd.V_drewN | apply Kd.V_drew)); exact HO252.out) hg hat); have n2_ := Aside0.mk (hb); have n3_ := Aside0.mk (ho); clear HO_9; clear HO252; clear HB; clear HO258; have HO_9 := n0_; have HO252 := n1_; have HB := n2_; have HO261 := n3_; clear n0_ n1_ n2_ n3_; clear ho hb hg hat))
                          (try subst hji12)
                          go_roundg k1
                          case measure => have := HK1.out; omega
                          case rel => exact ⟨(x12_1 ++ (⟨#[38, 92, 49, 45]⟩ : ByteArray)), (y259), (wrap64 (x14_1 + 1)), (by first | rfl | (simp; done) | (simp [*]; done)), (by first | rfl | (simp; done) | (simp [*]; done)), H', ⟨by have := HK1.out; omega⟩, ⟨by (with_reducible repeat (first | apply Kd.R_alloc | apply Kd.R_drewN | apply Kd.R_drew)); exact Kd.R_mono HO_9.out (fun _ hk => hk.2)⟩, ⟨by (with_reducible repeat (first | apply Kd.R_alloc | apply Kd.R_drewN | apply Kd.R_drew)); exact HO261.out⟩, ⟨by repeat (first | (with_reducible first | exact HB.out | apply below_alloc | apply pw_below_drewN | apply below_drew1) | exact HB.out)⟩⟩
                        · rw [if_neg c18] at H
                          exact absurd H (by simp)
                      · rw [if_neg c17] at H
                        exact absurd H (by simp)
                    · rw [if_neg c16] at H
                      exact absurd H (by simp)
                  · rw [if_neg c15] at H
                    exact absurd H (by simp)
                · rw [if_neg c14] at H
                  exact absurd H (by simp)
              · rw [if_neg c13] at H
                exact absurd H (by simp)
            · rw [if_neg c11] at H
              exact absurd H (by simp)
          · rw [if_neg c10] at H
            have c10b0 : decide (x14_1 < (wrap64 (Int.tmod a1 6))) = false := decide_eq_false c10
            clear c10
            by_cases c23 : x12_1.size + 1 ≤ 9223372036854775807
            · rw [if_pos c23] at H
              have c23b0 := eq_true c23
              have c23b1 : decide (x12_1.size + 1 ≤ 9223372036854775807) = true := decide_eq_true c23
              try have c23b2 : (9223372036854775807 < x12_1.size + 1) = False := eq_false (Nat.not_lt.2 c23)
              replace H := Option.bind_eq_some_iff.mp H
              obtain ⟨t262, A240, H⟩ := H
              replace H : ((subst_Parse.f t262 0 47 1).bind fun bt265 => ((redactorlaw14_known.f k1).bind fun t271 => (if t271 = true then (if bt265.2.2.1 = 0 then ((subst_Expand.f k1 bt265.1 t245 (([(⟨(Int.tmod (wrap64 (a2)) (wrap64 ((t245.length : Int) + 1))), (wrap64 ((Int.tmod (wrap64 (a2)) (wrap64 ((t245.length : Int) + 1))) + (Int.tmod (wrap64 (a3)) (wrap64 ((wrap64 ((t245.length : Int) - (Int.tmod (wrap64 (a2)) (wrap64 ((t245.length : Int) + 1))))) + 1)))))⟩ : S44), (⟨0, (t245.length : Int)⟩ : S44)] : List (S44)))).bind fun t275 => ((redactorref01_Same.f k1 t275 x13_1).bind fun t278 => (some t278))) else (some false)) else (some false)))) = some r := H
              have A24 := Aside0.mk A240
              clear A240
              replace H := Option.bind_eq_some_iff.mp H
              obtain ⟨⟨t265, t266, t267, t268⟩, A250, H⟩ := H
              replace H : ((redactorlaw14_known.f k1).bind fun t271 => (if t271 = true then (if t267 = 0 then ((subst_Expand.f k1 t265 t245 (([(⟨(Int.tmod (wrap64 (a2)) (wrap64 ((t245.length : Int) + 1))), (wrap64 ((Int.tmod (wrap64 (a2)) (wrap64 ((t245.length : Int) + 1))) + (Int.tmod (wrap64 (a3)) (wrap64 ((wrap64 ((t245.length : Int) - (Int.tmod (wrap64 (a2)) (wrap64 ((t245.length : Int) + 1))))) + 1)))))⟩ : S44), (⟨0, (t245.length : Int)⟩ : S44)] : List (S44)))).bind fun t275 => ((redactorref01_Same.f k1 t275 x13_1).bind fun t278 => (some t278))) else (some false)) else (some false))) = some r := H
              have A25 := Aside0.mk A250
              clear A250
              replace H := Option.bind_eq_some_iff.mp H
              obtain ⟨t271, A260, H⟩ := H
              replace H : (if t271 = true then (if t267 = 0 then ((subst_Expand.f k1 t265 t245 (([(⟨(Int.tmod (wrap64 (a2)) (wrap64 ((t245.length : Int) + 1))), (wrap64 ((Int.tmod (wrap64 (a2)) (wrap64 ((t245.length : Int) + 1))) + (Int.tmod (wrap64 (a3)) (wrap64 ((wrap64 ((t245.length : Int) - (Int.tmod (wrap64 (a2)) (wrap64 ((t245.length : Int) + 1))))) + 1)))))⟩ : S44), (⟨0, (t245.length : Int)⟩ : S44)] : List (S44)))).bind fun t275 => ((redactorref01_Same.f k1 t275 x13_1).bind fun t278 => (some t278))) else (some false)) else (some false)) = some r := H
              have A26 := Aside0.mk A260
              clear A260
              by_cases c27 : t271 = true
              · subst c27
                have H1 : (if t267 = 0 then ((subst_Expand.f k1 t265 t245 (([(⟨(Int.tmod (wrap64 (a2)) (wrap64 ((t245.length : Int) + 1))), (wrap64 ((Int.tmod (wrap64 (a2)) (wrap64 ((t245.length : Int) + 1))) + (Int.tmod (wrap64 (a3)) (wrap64 ((wrap64 ((t245.length : Int) - (Int.tmod (wrap64 (a2)) (wrap64 ((t245.length : Int) + 1))))) + 1)))))⟩ : S44), (⟨0, (t245.length : Int)⟩ : S44)] : List (S44)))).bind fun t275 => ((redactorref01_Same.f k1 t275 x13_1).bind fun t278 => (some t278))) else (some false)) = some r := by rw [if_pos rfl] at H; exact H
                clear H
                have H := H1
                clear H1
                by_cases c28 : t267 = 0
                · rw [if_pos c28] at H
                  have c28b0 : (t267 == 0) = true := beq_iff_eq.mpr c28
                  have c28b1 : (t267 != 0) = false := bne_eq_false_iff_eq.mpr c28
                  clear c28
                  obtain ⟨y272, hy272⟩ : ∃ y_ : List (S44), y_ = (([(⟨(Int.tmod (wrap64 (a2)) (wrap64 ((t245.length : Int) + 1))), (wrap64 ((Int.tmod (wrap64 (a2)) (wrap64 ((t245.length : Int) + 1))) + (Int.tmod (wrap64 (a3)) (wrap64 ((wrap64 ((t245.length : Int) - (Int.tmod (wrap64 (a2)) (wrap64 ((t245.length : Int) + 1))))) + 1)))))⟩ : S44), (⟨0, (t245.length : Int)⟩ : S44)] : List (S44))) := ⟨_, rfl⟩
                  replace H : ((subst_Expand.f k1 t265 t245 y272).bind fun t275 => ((redactorref01_Same.f k1 t275 x13_1).bind fun t278 => (some t278))) = some r := by first | (rw [hy272]; with_reducible exact H) | (have H2_ := (Option.bind_some _ _).symm.trans H; rw [hy272]; with_reducible exact H2_) | (have H2_ := (Option.bind_some _ _).symm.trans H; with_reducible exact H2_) | with_reducible exact H | (rw [hy272]; exact H) | exact H
                  have Ny272 := Aside0.mk hy272
                  clear hy272
                  replace H := Option.bind_eq_some_iff.mp H
                  obtain ⟨t275, A290, H⟩ := H
                  replace H : ((redactorref01_Same.f k1 t275 x13_1).bind fun t278 => (some t278)) = some r := H
                  have A29 := Aside0.mk A290
                  clear A290
                  replace H := Option.bind_eq_some_iff.mp H
                  obtain ⟨t278, A300, H⟩ := H
                  replace H : (some t278) = some r := H
                  have A30 := Aside0.mk A300
                  clear A300
                  obtain rfl := Option.some.inj H
                  go_wp2_with (first | ((with_reducible refine gate_callee (f := 15) rfl ?_); refine goesL_ (some 61) rfl rfl Try.func15 (by kernel_rfl) rfl #[.string (x12_1 ++ (⟨#[47]⟩ : ByteArray))] rfl (by (try simp only [List.map_toArray, List.map_cons, List.map_nil]); first | done | rfl | (simp only [List.length_drop, List.length_take]; rfl)) ?_; (with_reducible refine (redactorref01_Of.calls k1 (x12_1 ++ (⟨#[47]⟩ : ByteArray)) t262 _ A24.out).mono ?_); rintro e w31 ⟨v263, rfl, ho0, hb⟩; refine ⟨_, rfl, ?_⟩; have n0_ := Aside0.mk (Kd.R_elder' (by (with_reducible repeat (first | apply Kd.R_alloc | apply Kd.R_drewN | apply Kd.R_drew)); exact HO_9.out) (Kd.R_base ho0) hb); have n1_ := Aside0.mk (Kd.R_elder' (by (with_reducible repeat (first | apply Kd.R_alloc | apply Kd.R_drewN | apply Kd.R_drew)); exact HO_13.out) (Kd.R_base ho0) hb); have n2_ := Aside0.mk (Kd.R_lower (Kd.R_new' (Kd.R_new' ho0 (Kd.R_lt (by (with_reducible repeat (first | apply Kd.R_alloc | apply Kd.R_drewN | apply Kd.R_drew)); exact HO_9.out))) (Kd.R_lt (by (with_reducible repeat (first | apply Kd.R_alloc | apply Kd.R_drewN | apply Kd.R_drew)); exact HO_13.out))) (below_size (by repeat (first | (with_reducible first | exact HB.out | apply below_alloc | apply pw_below_drewN | apply below_drew1) | exact HB.out)))); have n3_ := Aside0.mk (below_step (by repeat (first | (with_reducible first | exact HB.out | apply below_alloc | apply pw_below_drewN | apply below_drew1) | exact HB.out)) hb); clear HO_9; clear HO_13; clear HB; have HO_9 := n0_; have HO_13 := n1_; have HO264 := n2_; have HB := n3_; clear n0_ n1_ n2_ n3_; (try clear hb); (try clear hb2); (try clear hk); (try clear hi); (try clear ho0); obtain ⟨Ao32, co32, eo32⟩ := Kd.R_slice HO264.out; subst eo32) | ((with_reducible refine gate_callee (f := 14) rfl ?_); refine goesL_ (some 62) rfl rfl Try.func14 (by kernel_rfl) rfl #[.slice Ao32 t262.length co32, .int .i64 0, .int .i32 47, .int .i64 1] rfl (by (try simp only [List.map_toArray, List.map_cons, List.map_nil]); first | done | rfl | (simp only [List.length_drop, List.length_take]; rfl)) ?_; (with_reducible refine (subst_Parse.calls _ _ t262 0 47 1 t265 t266 t267 t268 _ ?side1 ?side2 A25.out).mono ?_); (case side1 => repeat (first | exact (Kd.R_reads' HO264.out).2.2 | (with_reducible refine Kd.C_alloc ?_ _) | (with_reducible refine Kd.C_drewN ?_ _) | (with_reducible refine Kd.C_drew ?_))); (case side2 => exact (Kd.R_reads' HO264.out).2.1); rintro e w33 ⟨v269, rfl, ho0, hb⟩; refine ⟨_, rfl, ?_⟩; have n0_ := Aside0.mk (Kd.R_below (by (with_reducible repeat (first | apply Kd.R_alloc | apply Kd.R_drewN | apply Kd.R_drew)); exact HO_9.out) hb); have n1_ := Aside0.mk (Kd.R_below (by (with_reducible repeat (first | apply Kd.R_alloc | apply Kd.R_drewN | apply Kd.R_drew)); exact HO_13.out) hb); have n2_ := Aside0.mk (Kd.R_below (by (with_reducible repeat (first | apply Kd.R_alloc | apply Kd.R_drewN | apply Kd.R_drew)); exact HO264.out) hb); have n3_ := Aside0.mk (Kd.N_lower (Kd.N_mono (ok' := fun k_ => some k_ ≠ (.slice Ao9 t245.length co9 : Value).ownBlock ∧ some k_ ≠ (u13 : Value).ownBlock ∧ some k_ ≠ (.slice Ao32 t262.length co32 : Value).ownBlock) (Kd.S_N (Kd.S_bound ho0)) (fun k_ hk_ => ⟨(Kd.fresh' (Kd.R_lt (by (with_reducible repeat (first | apply Kd.R_alloc | apply Kd.R_drewN | apply Kd.R_drew)); exact HO_9.out)) k_ hk_.2.1), (Kd.fresh' (Kd.R_lt (by (with_reducible repeat (first | apply Kd.R_alloc | apply Kd.R_drewN | apply Kd.R_drew)); exact HO_13.out)) k_ hk_.2.1), (Kd.fresh' (Kd.R_lt (by (with_reducible repeat (first | apply Kd.R_alloc | apply Kd.R_drewN | apply Kd.R_drew)); exact HO264.out)) k_ hk_.2.1)⟩)) (below_size (by repeat (first | (with_reducible first | exact HB.out | apply below_alloc | apply pw_below_drewN | apply below_drew1) | exact HB.out)))); have n4_ := Aside0.mk (below_step (by repeat (first | (with_reducible first | exact HB.out | apply below_alloc | apply pw_below_drewN | apply below_drew1) | exact HB.out)) hb); clear HO_9; clear HO_13; clear HO264; clear HB; have HO_9 := n0_; have HO_13 := n1_; have HO264 := n2_; have HO270 := n3_; have HB := n4_; clear n0_ n1_ n2_ n3_ n4_; (try clear hb); (try clear hb2); (try clear hk); (try clear hi); (try clear ho0)) | ((with_reducible refine gate_callee (f := 11) rfl ?_); refine goesL_ (some 67) rfl rfl Try.func11 (by kernel_rfl) rfl #[] rfl (by (try simp only [List.map_toArray, List.map_cons, List.map_nil]); first | done | rfl | (simp only [List.length_drop, List.length_take]; rfl)) ?_; (with_reducible refine (redactorlaw14_known.calls k1  true _ A26.out).mono ?_); rintro e w34 ⟨rfl, hb⟩; refine ⟨_, rfl, ?_⟩; have n0_ := Aside0.mk (Kd.R_below (by (with_reducible repeat (first | apply Kd.R_alloc | apply Kd.R_drewN | apply Kd.R_drew)); exact HO_9.out) hb); have n1_ := Aside0.mk (Kd.R_below (by (with_reducible repeat (first | apply Kd.R_alloc | apply Kd.R_drewN | apply Kd.R_drew)); exact HO_13.out) hb); have n2_ := Aside0.mk (Kd.R_below (by (with_reducible repeat (first | apply Kd.R_alloc | apply Kd.R_drewN | apply Kd.R_drew)); exact HO264.out) hb); have n3_ := Aside0.mk (Kd.N_below (by (with_reducible repeat (first | apply Kd.N_alloc | apply Kd.N_drewN | apply Kd.N_drew)); exact HO270.out) hb); have n4_ := Aside0.mk (below_step (by repeat (first | (with_reducible first | exact HB.out | apply below_alloc | apply pw_below_drewN | apply below_drew1) | exact HB.out)) hb); clear HO_9; clear HO_13; clear HO264; clear HO270; clear HB; have HO_9 := n0_; have HO_13 := n1_; have HO264 := n2_; have HO270 := n3_; have HB := n4_; clear n0_ n1_ n2_ n3_ n4_; (try clear hb); (try clear hb2); (try clear hk); (try clear hi)) | ((with_reducible refine gate_dst (N := 81) rfl ?_); (try (refine gate_guard (by rfl) ?_; dsimp only)); refine Kd.R_lit k44 _ 44 ?hg (N := 81) ?hd (xs := ([(⟨(Int.tmod (wrap64 (a2)) (wrap64 ((t245.length : Int) + 1))), (wrap64 ((Int.tmod (wrap64 (a2)) (wrap64 ((t245.length : Int) + 1))) + (Int.tmod (wrap64 (a3)) (wrap64 ((wrap64 ((t245.length : Int) - (Int.tmod (wrap64 (a2)) (wrap64 ((t245.length : Int) + 1))))) + 1)))))⟩ : S44), (⟨0, (t245.length : Int)⟩ : S44)] : List (S44))) (inner := [.int .i64 (Int.tmod (wrap64 (a2)) (wrap64 ((t245.length : Int) + 1))), .int .i64 (wrap64 ((Int.tmod (wrap64 (a2)) (wrap64 ((t245.length : Int) + 1))) + (Int.tmod (wrap64 (a3)) (wrap64 ((wrap64 ((t245.length : Int) - (Int.tmod (wrap64 (a2)) (wrap64 ((t245.length : Int) + 1))))) + 1))))), .int .i64 0, .int .i64 (t245.length : Int)]) (ok := fun _ => True) (okp := fun _ => True) ?hr ?hp (fun _ hk => hk) trivial (Below.refl _ _) (Nat.le_refl _) (by simp) ?_; (case hd => rfl); (case hg => rfl); (case hr => first | (go_simp; done) | (go_simp; rfl)); (case hp => exact (Reps.c2 (show Kd.M k44 _ _ _ (⟨(Int.tmod (wrap64 (a2)) (wrap64 ((t245.length : Int) + 1))), (wrap64 ((Int.tmod (wrap64 (a2)) (wrap64 ((t245.length : Int) + 1))) + (Int.tmod (wrap64 (a3)) (wrap64 ((wrap64 ((t245.length : Int) - (Int.tmod (wrap64 (a2)) (wrap64 ((t245.length : Int) + 1))))) + 1)))))⟩ : S44) [.int .i64 (Int.tmod (wrap64 (a2)) (wrap64 ((t245.length : Int) + 1))), .int .i64 (wrap64 ((Int.tmod (wrap64 (a2)) (wrap64 ((t245.length : Int) + 1))) + (Int.tmod (wrap64 (a3)) (wrap64 ((wrap64 ((t245.length : Int) - (Int.tmod (wrap64 (a2)) (wrap64 ((t245.length : Int) + 1))))) + 1)))))] from (k44_mkM _ _ _ (⟨(Int.tmod (wrap64 (a2)) (wrap64 ((t245.length : Int) + 1))), (wrap64 ((Int.tmod (wrap64 (a2)) (wrap64 ((t245.length : Int) + 1))) + (Int.tmod (wrap64 (a3)) (wrap64 ((wrap64 ((t245.length : Int) - (Int.tmod (wrap64 (a2)) (wrap64 ((t245.length : Int) + 1))))) + 1)))))⟩ : S44) )) (Reps.c2 (show Kd.M k44 _ _ _ (⟨0, (t245.length : Int)⟩ : S44) [.int .i64 0, .int .i64 (t245.length : Int)] from (k44_mkM _ _ _ (⟨0, (t245.length : Int)⟩ : S44) )) (Reps.none _ _)))); intro v273 w35 ho36 hb hg_ hnew_; clear hg_ hnew_; (first | rw [← Ny272.out] at ho36 | (simp only [Int.reduceToNat] at ho36; rw [← Ny272.out] at ho36)); have n0_ := Aside0.mk (Kd.R_below (by (with_reducible repeat (first | apply Kd.R_alloc | apply Kd.R_drewN | apply Kd.R_drew)); exact HO_9.out) hb); have n1_ := Aside0.mk (Kd.R_below (by (with_reducible repeat (first | apply Kd.R_alloc | apply Kd.R_drewN | apply Kd.R_drew)); exact HO_13.out) hb); have n2_ := Aside0.mk (Kd.R_below (by (with_reducible repeat (first | apply Kd.R_alloc | apply Kd.R_drewN | apply Kd.R_drew)); exact HO264.out) hb); have n3_ := Aside0.mk (Kd.N_elder' (by (with_reducible repeat (first | apply Kd.N_alloc | apply Kd.N_drewN | apply Kd.N_drew)); exact HO270.out) (Kd.R_base ho36) hb); have n4_ := Aside0.mk (Kd.R_lower ho36 (below_size (by repeat (first | (with_reducible first | exact HB.out | apply below_alloc | apply pw_below_drewN | apply below_drew1) | exact HB.out)))); have n5_ := Aside0.mk (below_step (by repeat (first | (with_reducible first | exact HB.out | apply below_alloc | apply pw_below_drewN | apply below_drew1) | exact HB.out)) hb); clear HO_9; clear HO_13; clear HO264; clear HO270; clear HB; have HO_9 := n0_; have HO_13 := n1_; have HO264 := n2_; have HO270 := n3_; have HO274 := n4_; have HB := n5_; clear n0_ n1_ n2_ n3_ n4_ n5_; clear hb ho36; obtain ⟨Ao37, co37, eo37⟩ := Kd.N_slice HO270.out; subst eo37; obtain ⟨Ao38, co38, eo38⟩ := Kd.R_slice HO274.out; subst eo38) | (go_at_call 16; (with_reducible refine (subst_Expand.calls k1 _ _ t265 _ _ t245 _ _ y272 t275 _ ?side1 ?side2 ?side3 ?side4 ?side5 ?side6 A29.out).mono ?_); (case side1 => repeat (first | exact (Kd.N_reads' HO270.out).2.2 | (with_reducible refine Kd.C_alloc ?_ _) | (with_reducible refine Kd.C_drewN ?_ _) | (with_reducible refine Kd.C_drew ?_))); (case side2 => exact (Kd.N_reads' HO270.out).2.1); (case side3 => repeat (first | exact (Kd.R_reads' HO_9.out).2.2 | (with_reducible refine Kd.C_alloc ?_ _) | (with_reducible refine Kd.C_drewN ?_ _) | (with_reducible refine Kd.C_drew ?_))); (case side4 => exact (Kd.R_reads' HO_9.out).2.1); (case side5 => repeat (first | exact (Kd.R_reads' HO274.out).2.2 | (with_reducible refine Kd.C_alloc ?_ _) | (with_reducible refine Kd.C_drewN ?_ _) | (with_reducible refine Kd.C_drew ?_))); (case side6 => exact (Kd.R_reads' HO274.out).2.1); rintro e w39 ⟨v276, rfl, ho0, hb⟩; have n0_ := Aside0.mk (Kd.R_elder' (by (with_reducible repeat (first | apply Kd.R_alloc | apply Kd.R_drewN | apply Kd.R_drew)); exact HO_9.out) (Kd.R_base ho0) hb); have n1_ := Aside0.mk (Kd.R_elder' (by (with_reducible repeat (first | apply Kd.R_alloc | apply Kd.R_drewN | apply Kd.R_drew)); exact HO_13.out) (Kd.R_base ho0) hb); have n2_ := Aside0.mk (Kd.R_elder' (by (with_reducible repeat (first | apply Kd.R_alloc | apply Kd.R_drewN | apply Kd.R_drew)); exact HO264.out) (Kd.R_base ho0) hb); have n3_ := Aside0.mk (Kd.N_elder' (by (with_reducible repeat (first | apply Kd.N_alloc | apply Kd.N_drewN | apply Kd.N_drew)); exact HO270.out) (Kd.R_base ho0) hb); have n4_ := Aside0.mk (Kd.R_below (by (with_reducible repeat (first | apply Kd.R_alloc | apply Kd.R_drewN | apply Kd.R_drew)); exact HO274.out) hb); have n5_ := Aside0.mk (Kd.R_lower (Kd.R_new' (Kd.R_new' (Kd.R_new' ho0 (Kd.R_lt (by (with_reducible repeat (first | apply Kd.R_alloc | apply Kd.R_drewN | apply Kd.R_drew)); exact HO_9.out))) (Kd.R_lt (by (with_reducible repeat (first | apply Kd.R_alloc | apply Kd.R_drewN | apply Kd.R_drew)); exact HO_13.out))) (Kd.R_lt (by (with_reducible repeat (first | apply Kd.R_alloc | apply Kd.R_drewN | apply Kd.R_drew)); exact HO264.out))) (below_size (by repeat (first | (with_reducible first | exact HB.out | apply below_alloc | apply pw_below_drewN | apply below_drew1) | exact HB.out)))); have n6_ := Aside0.mk (below_step (by repeat (first | (with_reducible first | exact HB.out | apply below_alloc | apply pw_below_drewN | apply below_drew1) | exact HB.out)) hb); clear HO_9; clear HO_13; clear HO264; clear HO270; clear HO274; clear HB; have HO_9 := n0_; have HO_13 := n1_; have HO264 := n2_; have HO270 := n3_; have HO274 := n4_; have HO277 := n5_; have HB := n6_; clear n0_ n1_ n2_ n3_ n4_ n5_ n6_; (try clear hb); (try clear hb2); (try clear hk); (try clear hi); (try clear ho0); obtain ⟨Ao40, co40, eo40⟩ := Kd.R_slice HO277.out; subst eo40; obtain ⟨Ao41, co41, eo41⟩ := Kd.R_slice HO_13.out; subst eo41) | (go_at_call 12; (with_reducible refine (redactorref01_Same.calls k1 _ _ t275 _ _ x13_1 t278 _ ?side1 ?side2 ?side3 ?side4 A30.out).mono ?_); (case side1 => repeat (first | exact (Kd.R_reads' HO277.out).2.2 | (with_reducible refine Kd.C_alloc ?_ _) | (with_reducible refine Kd.C_drewN ?_ _) | (with_reducible refine Kd.C_drew ?_))); (case side2 => exact (Kd.R_reads' HO277.out).2.1); (case side3 => repeat (first | exact (Kd.R_reads' HO_13.out).2.2 | (with_reducible refine Kd.C_alloc ?_ _) | (with_reducible refine Kd.C_drewN ?_ _) | (with_reducible refine Kd.C_drew ?_))); (case side4 => exact (Kd.R_reads' HO_13.out).2.1); rintro e w' ⟨rfl, ⟨nd, rfl⟩⟩))
                  go_ret
                  exact ⟨by first | rfl | (simp [errW_none, errW_some] <;> rfl) | (simp [*, errW_none, errW_some] <;> rfl), by repeat (first | (with_reducible first | exact HB.out | apply below_alloc | apply pw_below_drewN | apply below_drew1) | exact HB.out)⟩
                · rw [if_neg c28] at H
                  have c28b0 : (t267 == 0) = false := beq_eq_false_iff_ne.mpr c28
                  have c28b1 : (t267 != 0) = true := bne_iff_ne.mpr c28
                  obtain rfl := Option.some.inj H
                  go_wp2_with (first | ((with_reducible refine gate_callee (f := 15) rfl ?_); refine goesL_ (some 61) rfl rfl Try.func15 (by kernel_rfl) rfl #[.string (x12_1 ++ (⟨#[47]⟩ : ByteArray))] rfl (by (try simp only [List.map_toArray, List.map_cons, List.map_nil]); first | done | rfl | (simp only [List.length_drop, List.length_take]; rfl)) ?_; (with_reducible refine (redactorref01_Of.calls k1 (x12_1 ++ (⟨#[47]⟩ : ByteArray)) t262 _ A24.out).mono ?_); rintro e w42 ⟨v263, rfl, ho0, hb⟩; refine ⟨_, rfl, ?_⟩; have n0_ := Aside0.mk (Kd.R_elder' (by (with_reducible repeat (first | apply Kd.R_alloc | apply Kd.R_drewN | apply Kd.R_drew)); exact HO_9.out) (Kd.R_base ho0) hb); have n1_ := Aside0.mk (Kd.R_elder' (by (with_reducible repeat (first | apply Kd.R_alloc | apply Kd.R_drewN | apply Kd.R_drew)); exact HO_13.out) (Kd.R_base ho0) hb); have n2_ := Aside0.mk (Kd.R_lower (Kd.R_new' (Kd.R_new' ho0 (Kd.R_lt (by (with_reducible repeat (first | apply Kd.R_alloc | apply Kd.R_drewN | apply Kd.R_drew)); exact HO_9.out))) (Kd.R_lt (by (with_reducible repeat (first | apply Kd.R_alloc | apply Kd.R_drewN | apply Kd.R_drew)); exact HO_13.out))) (below_size (by repeat (first | (with_reducible first | exact HB.out | apply below_alloc | apply pw_below_drewN | apply below_drew1) | exact HB.out)))); have n3_ := Aside0.mk (below_step (by repeat (first | (with_reducible first | exact HB.out | apply below_alloc | apply pw_below_drewN | apply below_drew1) | exact HB.out)) hb); clear HO_9; clear HO_13; clear HB; have HO_9 := n0_; have HO_13 := n1_; have HO264 := n2_; have HB := n3_; clear n0_ n1_ n2_ n3_; (try clear hb); (try clear hb2); (try clear hk); (try clear hi); (try clear ho0); obtain ⟨Ao43, co43, eo43⟩ := Kd.R_slice HO264.out; subst eo43) | ((with_reducible refine gate_callee (f := 14) rfl ?_); refine goesL_ (some 62) rfl rfl Try.func14 (by kernel_rfl) rfl #[.slice Ao43 t262.length co43, .int .i64 0, .int .i32 47, .int .i64 1] rfl (by (try simp only [List.map_toArray, List.map_cons, List.map_nil]); first | done | rfl | (simp only [List.length_drop, List.length_take]; rfl)) ?_; (with_reducible refine (subst_Parse.calls _ _ t262 0 47 1 t265 t266 t267 t268 _ ?side1 ?side2 A25.out).mono ?_); (case side1 => repeat (first | exact (Kd.R_reads' HO264.out).2.2 | (with_reducible refine Kd.C_alloc ?_ _) | (with_reducible refine Kd.C_drewN ?_ _) | (with_reducible refine Kd.C_drew ?_))); (case side2 => exact (Kd.R_reads' HO264.out).2.1); rintro e w44 ⟨v269, rfl, ho0, hb⟩; refine ⟨_, rfl, ?_⟩; have n0_ := Aside0.mk (Kd.R_below (by (with_reducible repeat (first | apply Kd.R_alloc | apply Kd.R_drewN | apply Kd.R_drew)); exact HO_9.out) hb); have n1_ := Aside0.mk (Kd.R_below (by (with_reducible repeat (first | apply Kd.R_alloc | apply Kd.R_drewN | apply Kd.R_drew)); exact HO_13.out) hb); have n2_ := Aside0.mk (Kd.R_below (by (with_reducible repeat (first | apply Kd.R_alloc | apply Kd.R_drewN | apply Kd.R_drew)); exact HO264.out) hb); have n3_ := Aside0.mk (Kd.N_lower (Kd.N_mono (ok' := fun k_ => some k_ ≠ (.slice Ao9 t245.length co9 : Value).ownBlock ∧ some k_ ≠ (u13 : Value).ownBlock ∧ some k_ ≠ (.slice Ao43 t262.length co43 : Value).ownBlock) (Kd.S_N (Kd.S_bound ho0)) (fun k_ hk_ => ⟨(Kd.fresh' (Kd.R_lt (by (with_reducible repeat (first | apply Kd.R_alloc | apply Kd.R_drewN | apply Kd.R_drew)); exact HO_9.out)) k_ hk_.2.1), (Kd.fresh' (Kd.R_lt (by (with_reducible repeat (first | apply Kd.R_alloc | apply Kd.R_drewN | apply Kd.R_drew)); exact HO_13.out)) k_ hk_.2.1), (Kd.fresh' (Kd.R_lt (by (with_reducible repeat (first | apply Kd.R_alloc | apply Kd.R_drewN | apply Kd.R_drew)); exact HO264.out)) k_ hk_.2.1)⟩)) (below_size (by repeat (first | (with_reducible first | exact HB.out | apply below_alloc | apply pw_below_drewN | apply below_drew1) | exact HB.out)))); have n4_ := Aside0.mk (below_step (by repeat (first | (with_reducible first | exact HB.out | apply below_alloc | apply pw_below_drewN | apply below_drew1) | exact HB.out)) hb); clear HO_9; clear HO_13; clear HO264; clear HB; have HO_9 := n0_; have HO_13 := n1_; have HO264 := n2_; have HO270 := n3_; have HB := n4_; clear n0_ n1_ n2_ n3_ n4_; (try clear hb); (try clear hb2); (try clear hk); (try clear hi); (try clear ho0)) | ((with_reducible refine gate_callee (f := 11) rfl ?_); refine goesL_ (some 67) rfl rfl Try.func11 (by kernel_rfl) rfl #[] rfl (by (try simp only [List.map_toArray, List.map_cons, List.map_nil]); first | done | rfl | (simp only [List.length_drop, List.length_take]; rfl)) ?_; (with_reducible refine (redactorlaw14_known.calls k1  true _ A26.out).mono ?_); rintro e w45 ⟨rfl, hb⟩; refine ⟨_, rfl, ?_⟩; have n0_ := Aside0.mk (Kd.R_below (by (with_reducible repeat (first | apply Kd.R_alloc | apply Kd.R_drewN | apply Kd.R_drew)); exact HO_9.out) hb); have n1_ := Aside0.mk (Kd.R_below (by (with_reducible repeat (first | apply Kd.R_alloc | apply Kd.R_drewN | apply Kd.R_drew)); exact HO_13.out) hb); have n2_ := Aside0.mk (Kd.R_below (by (with_reducible repeat (first | apply Kd.R_alloc | apply Kd.R_drewN | apply Kd.R_drew)); exact HO264.out) hb); have n3_ := Aside0.mk (Kd.N_below (by (with_reducible repeat (first | apply Kd.N_alloc | apply Kd.N_drewN | apply Kd.N_drew)); exact HO270.out) hb); have n4_ := Aside0.mk (below_step (by repeat (first | (with_reducible first | exact HB.out | apply below_alloc | apply pw_below_drewN | apply below_drew1) | exact HB.out)) hb); clear HO_9; clear HO_13; clear HO264; clear HO270; clear HB; have HO_9 := n0_; have HO_13 := n1_; have HO264 := n2_; have HO270 := n3_; have HB := n4_; clear n0_ n1_ n2_ n3_ n4_; (try clear hb); (try clear hb2); (try clear hk); (try clear hi)))
                  go_ret
                  exact ⟨by first | rfl | (simp [errW_none, errW_some] <;> rfl) | (simp [*, errW_none, errW_some] <;> rfl), by repeat (first | (with_reducible first | exact HB.out | apply below_alloc | apply pw_below_drewN | apply below_drew1) | exact HB.out)⟩
              · replace c27 := Bool.eq_false_iff.mpr c27
                subst c27
                have H1 : (some false) = some r := by rw [if_neg (show ¬ (false = true) by decide)] at H; exact H
                clear H
                have H := H1
                clear H1
                obtain rfl := Option.some.inj H
                go_wp2_with (first | ((with_reducible refine gate_callee (f := 15) rfl ?_); refine goesL_ (some 61) rfl rfl Try.func15 (by kernel_rfl) rfl #[.string (x12_1 ++ (⟨#[47]⟩ : ByteArray))] rfl (by (try simp only [List.map_toArray, List.map_cons, List.map_nil]); first | done | rfl | (simp only [List.length_drop, List.length_take]; rfl)) ?_; (with_reducible refine (redactorref01_Of.calls k1 (x12_1 ++ (⟨#[47]⟩ : ByteArray)) t262 _ A24.out).mono ?_); rintro e w46 ⟨v263, rfl, ho0, hb⟩; refine ⟨_, rfl, ?_⟩; have n0_ := Aside0.mk (Kd.R_elder' (by (with_reducible repeat (first | apply Kd.R_alloc | apply Kd.R_drewN | apply Kd.R_drew)); exact HO_9.out) (Kd.R_base ho0) hb); have n1_ := Aside0.mk (Kd.R_elder' (by (with_reducible repeat (first | apply Kd.R_alloc | apply Kd.R_drewN | apply Kd.R_drew)); exact HO_13.out) (Kd.R_base ho0) hb); have n2_ := Aside0.mk (Kd.R_lower (Kd.R_new' (Kd.R_new' ho0 (Kd.R_lt (by (with_reducible repeat (first | apply Kd.R_alloc | apply Kd.R_drewN | apply Kd.R_drew)); exact HO_9.out))) (Kd.R_lt (by (with_reducible repeat (first | apply Kd.R_alloc | apply Kd.R_drewN | apply Kd.R_drew)); exact HO_13.out))) (below_size (by repeat (first | (with_reducible first | exact HB.out | apply below_alloc | apply pw_below_drewN | apply below_drew1) | exact HB.out)))); have n3_ := Aside0.mk (below_step (by repeat (first | (with_reducible first | exact HB.out | apply below_alloc | apply pw_below_drewN | apply below_drew1) | exact HB.out)) hb); clear HO_9; clear HO_13; clear HB; have HO_9 := n0_; have HO_13 := n1_; have HO264 := n2_; have HB := n3_; clear n0_ n1_ n2_ n3_; (try clear hb); (try clear hb2); (try clear hk); (try clear hi); (try clear ho0); obtain ⟨Ao47, co47, eo47⟩ := Kd.R_slice HO264.out; subst eo47) | ((with_reducible refine gate_callee (f := 14) rfl ?_); refine goesL_ (some 62) rfl rfl Try.func14 (by kernel_rfl) rfl #[.slice Ao47 t262.length co47, .int .i64 0, .int .i32 47, .int .i64 1] rfl (by (try simp only [List.map_toArray, List.map_cons, List.map_nil]); first | done | rfl | (simp only [List.length_drop, List.length_take]; rfl)) ?_; (with_reducible refine (subst_Parse.calls _ _ t262 0 47 1 t265 t266 t267 t268 _ ?side1 ?side2 A25.out).mono ?_); (case side1 => repeat (first | exact (Kd.R_reads' HO264.out).2.2 | (with_reducible refine Kd.C_alloc ?_ _) | (with_reducible refine Kd.C_drewN ?_ _) | (with_reducible refine Kd.C_drew ?_))); (case side2 => exact (Kd.R_reads' HO264.out).2.1); rintro e w48 ⟨v269, rfl, ho0, hb⟩; refine ⟨_, rfl, ?_⟩; have n0_ := Aside0.mk (Kd.R_below (by (with_reducible repeat (first | apply Kd.R_alloc | apply Kd.R_drewN | apply Kd.R_drew)); exact HO_9.out) hb); have n1_ := Aside0.mk (Kd.R_below (by (with_reducible repeat (first | apply Kd.R_alloc | apply Kd.R_drewN | apply Kd.R_drew)); exact HO_13.out) hb); have n2_ := Aside0.mk (Kd.R_below (by (with_reducible repeat (first | apply Kd.R_alloc | apply Kd.R_drewN | apply Kd.R_drew)); exact HO264.out) hb); have n3_ := Aside0.mk (Kd.N_lower (Kd.N_mono (ok' := fun k_ => some k_ ≠ (.slice Ao9 t245.length co9 : Value).ownBlock ∧ some k_ ≠ (u13 : Value).ownBlock ∧ some k_ ≠ (.slice Ao47 t262.length co47 : Value).ownBlock) (Kd.S_N (Kd.S_bound ho0)) (fun k_ hk_ => ⟨(Kd.fresh' (Kd.R_lt (by (with_reducible repeat (first | apply Kd.R_alloc | apply Kd.R_drewN | apply Kd.R_drew)); exact HO_9.out)) k_ hk_.2.1), (Kd.fresh' (Kd.R_lt (by (with_reducible repeat (first | apply Kd.R_alloc | apply Kd.R_drewN | apply Kd.R_drew)); exact HO_13.out)) k_ hk_.2.1), (Kd.fresh' (Kd.R_lt (by (with_reducible repeat (first | apply Kd.R_alloc | apply Kd.R_drewN | apply Kd.R_drew)); exact HO264.out)) k_ hk_.2.1)⟩)) (below_size (by repeat (first | (with_reducible first | exact HB.out | apply below_alloc | apply pw_below_drewN | apply below_drew1) | exact HB.out)))); have n4_ := Aside0.mk (below_step (by repeat (first | (with_reducible first | exact HB.out | apply below_alloc | apply pw_below_drewN | apply below_drew1) | exact HB.out)) hb); clear HO_9; clear HO_13; clear HO264; clear HB; have HO_9 := n0_; have HO_13 := n1_; have HO264 := n2_; have HO270 := n3_; have HB := n4_; clear n0_ n1_ n2_ n3_ n4_; (try clear hb); (try clear hb2); (try clear hk); (try clear hi); (try clear ho0)) | ((with_reducible refine gate_callee (f := 11) rfl ?_); refine goesL_ (some 67) rfl rfl Try.func11 (by kernel_rfl) rfl #[] rfl (by (try simp only [List.map_toArray, List.map_cons, List.map_nil]); first | done | rfl | (simp only [List.length_drop, List.length_take]; rfl)) ?_; (with_reducible refine (redactorlaw14_known.calls k1  false _ A26.out).mono ?_); rintro e w49 ⟨rfl, hb⟩; refine ⟨_, rfl, ?_⟩; have n0_ := Aside0.mk (Kd.R_below (by (with_reducible repeat (first | apply Kd.R_alloc | apply Kd.R_drewN | apply Kd.R_drew)); exact HO_9.out) hb); have n1_ := Aside0.mk (Kd.R_below (by (with_reducible repeat (first | apply Kd.R_alloc | apply Kd.R_drewN | apply Kd.R_drew)); exact HO_13.out) hb); have n2_ := Aside0.mk (Kd.R_below (by (with_reducible repeat (first | apply Kd.R_alloc | apply Kd.R_drewN | apply Kd.R_drew)); exact HO264.out) hb); have n3_ := Aside0.mk (Kd.N_below (by (with_reducible repeat (first | apply Kd.N_alloc | apply Kd.N_drewN | apply Kd.N_drew)); exact HO270.out) hb); have n4_ := Aside0.mk (below_step (by repeat (first | (with_reducible first | exact HB.out | apply below_alloc | apply pw_below_drewN | apply below_drew1) | exact HB.out)) hb); clear HO_9; clear HO_13; clear HO264; clear HO270; clear HB; have HO_9 := n0_; have HO_13 := n1_; have HO264 := n2_; have HO270 := n3_; have HB := n4_; clear n0_ n1_ n2_ n3_ n4_; (try clear hb); (try clear hb2); (try clear hk); (try clear hi)))
                go_ret
                exact ⟨by first | rfl | (simp [errW_none, errW_some] <;> rfl) | (simp [*, errW_none, errW_some] <;> rfl), by repeat (first | (with_reducible first | exact HB.out | apply below_alloc | apply pw_below_drewN | apply below_drew1) | exact HB.out)⟩
            · rw [if_neg c23] at H
              exact absurd H (by simp)

/-- THE ONE PURE STATEMENT of redactorlaw14_SubstAll: yours. -/
def redactorlaw14_SubstAll.Pure : Prop := ∀ (l0 : List Int) (a1 : Int) (a2 : Int) (a3 : Int), l0.length ≤ maxLen → l0.length * 1 ≤ 140737488351232 → (∀ x ∈ l0, (Lit.int .u8 x).wf = true) → (Lit.int .u8 a1).wf = true → (Lit.int .u8 a2).wf = true → (Lit.int .u8 a3).wf = true → ∃ k, redactorlaw14_SubstAll.f k l0 a1 a2 a3 = some true
theorem redactorlaw14_SubstAll.walk (P : redactorlaw14_SubstAll.Pure) (a0 : Option Addr) (len0 cap0 : Nat) (z0 : List Int) (a1 : Int) (a2 : Int) (a3 : Int) (w : World) (w0 : (a0 = none ∧ len0 = 0 ∧ cap0 = 0 ∧ z0 = []) ∨ ∃ x, a0 = some x ∧ len0 ≤ cap0 ∧ cap0 ≤ maxLen ∧ z0.length = cap0 ∧ (∀ i, i < z0.length → w.cell? (x.add i) = some (.int .u8 (z0.getD i 0))) ∧ ∀ n ∈ z0, (Lit.int .u8 n).wf = true) (y0 : len0 * 1 ≤ 140737488351232) (w1 : (Lit.int .u8 a1).wf = true) (w2 : (Lit.int .u8 a2).wf = true) (w3 : (Lit.int .u8 a3).wf = true) :
    Calls Try.prog 5 #[.slice a0 len0 cap0, .int .u8 a1, .int .u8 a2, .int .u8 a3] w fun e w' => e = .returned (.bool true) ∧ Below w.heap.size w w' := by
  obtain ⟨l0, rfl, hr0, hm0, hw0, hc0⟩ := ReadsInt.ofRowC w0
  obtain ⟨k, h⟩ := P l0 a1 a2 a3 hm0 y0 hw0 w1 w2 w3
  refine (redactorlaw14_SubstAll.calls k _ _ l0 a1 a2 a3 true w (Kd.C_of_reads (d := (0 : Int)) (h1 := fun _ => rfl) hr0) hc0 h).mono ?_
  rintro e w' ⟨rfl, hd⟩
  exact ⟨rfl, hd⟩

end Go.Proofs.Ytfgccmgfkfhfcaa.PAll
