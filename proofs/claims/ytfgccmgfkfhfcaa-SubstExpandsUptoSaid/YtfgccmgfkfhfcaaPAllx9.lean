/- Written for this seat by a program of this session (wip/tools/pp.py): Lean functions with the same answers as the Go functions, and the proofs that they are. Lean checks it. -/
import Derived.Test.YtfgccmgfkfhfcaaPAllx0
namespace Go.Proofs.Ytfgccmgfkfhfcaa.PAll
open Go.RowKit Go.Proofs.YtfgccmgfkfhfcaaW.PrintWords Go.Proofs.YtfgccmgfkfhfcaaW.PrintLast Go.Proofs.YtfgccmgfkfhfcaaW.PrintMore
attribute [local go_sem] max2_int min2_int max_two min_two max_three min_three max_four min_four   -- for this text's walks alone
set_option linter.unusedVariables false
set_option linter.unusedSimpArgs false

/-! ### redactorref14_Expand: function 19 -/
mutual
def redactorref14_Expand.l0 : Nat → List (S49) → List Int → List (S44) → List Int → Int → Option (List Int)
  | 0, _, _, _, _, _ => none
  | k + 1, x0, x1, x2, x7, x8 => if x8 < (x0.length : Int) then (if 0 ≤ x8 then (if ((rd_T49 x0 x8).f0) = 1 then (if x7.length + ((rd_T49 x0 x8).f1).length < 35184372088832 then (redactorref14_Expand.j1 k x0 x1 x2 (x7 ++ ((rd_T49 x0 x8).f1)) x8 ((rd_T49 x0 x8).f0) ((rd_T49 x0 x8).f1) ((rd_T49 x0 x8).f2)) else (none)) else (redactorref14_Expand.j1 k x0 x1 x2 x7 x8 ((rd_T49 x0 x8).f0) ((rd_T49 x0 x8).f1) ((rd_T49 x0 x8).f2))) else (none)) else (some x7)
def redactorref14_Expand.j1 : Nat → List (S49) → List Int → List (S44) → List Int → Int → Int → List Int → Int → Option (List Int)
  | 0, _, _, _, _, _, _, _, _ => none
  | k + 1, x0, x1, x2, x7, x8, x361000, x361001, x361002 => if x361000 = 2 then (if x361002 ≥ 0 then (redactorref14_Expand.j2 k x0 x1 x2 x7 x8 (decide (x361002 < (x2.length : Int))) x361000 x361001 x361002) else (redactorref14_Expand.j2 k x0 x1 x2 x7 x8 false x361000 x361001 x361002)) else (redactorref14_Expand.j2 k x0 x1 x2 x7 x8 false x361000 x361001 x361002)
def redactorref14_Expand.j2 : Nat → List (S49) → List Int → List (S44) → List Int → Int → Bool → Int → List Int → Int → Option (List Int)
  | 0, _, _, _, _, _, _, _, _, _ => none
  | k + 1, x0, x1, x2, x7, x8, x42, x361000, x361001, x361002 => if x42 = true then (if 0 ≤ x361002 then (if x361002 < (x2.length : Int) then (if ((rd_T44 x2 x361002).f0) ≥ 0 then (if ((rd_T44 x2 x361002).f0) ≤ ((rd_T44 x2 x361002).f1) then (if ((rd_T44 x2 x361002).f1) ≤ (x1.length : Int) then (if 0 ≤ ((rd_T44 x2 x361002).f0) then (if x7.length + ((x1.take (((rd_T44 x2 x361002).f1) : Int).toNat).drop (((rd_T44 x2 x361002).f0) : Int).toNat).length < 35184372088832 then (redactorref14_Expand.l0 k x0 x1 x2 (x7 ++ ((x1.take (((rd_T44 x2 x361002).f1) : Int).toNat).drop (((rd_T44 x2 x361002).f0) : Int).toNat)) (wrap64 (x8 + 1))) else (none)) else (none)) else (redactorref14_Expand.l0 k x0 x1 x2 x7 (wrap64 (x8 + 1)))) else (redactorref14_Expand.l0 k x0 x1 x2 x7 (wrap64 (x8 + 1)))) else (redactorref14_Expand.l0 k x0 x1 x2 x7 (wrap64 (x8 + 1)))) else (none)) else (none)) else (redactorref14_Expand.l0 k x0 x1 x2 x7 (wrap64 (x8 + 1)))
end
def redactorref14_Expand.f (k : Nat) (l0 : List (S49)) (l1 : List Int) (l2 : List (S44)) : Option (List Int) := redactorref14_Expand.l0 k l0 l1 l2 ([] : List Int) 0
theorem redactorref14_Expand.mono_l : ∀ k, (∀ y0 y1 y2 y3 y4, LeO (redactorref14_Expand.l0 k y0 y1 y2 y3 y4) (redactorref14_Expand.l0 (k + 1) y0 y1 y2 y3 y4)) ∧ (∀ y0 y1 y2 y3 y4 y5 y6 y7, LeO (redactorref14_Expand.j1 k y0 y1 y2 y3 y4 y5 y6 y7) (redactorref14_Expand.j1 (k + 1) y0 y1 y2 y3 y4 y5 y6 y7)) ∧ (∀ y0 y1 y2 y3 y4 y5 y6 y7 y8, LeO (redactorref14_Expand.j2 k y0 y1 y2 y3 y4 y5 y6 y7 y8) (redactorref14_Expand.j2 (k + 1) y0 y1 y2 y3 y4 y5 y6 y7 y8))
  | 0 => ⟨fun _ _ _ _ _ r h => by simp [redactorref14_Expand.l0] at h, fun _ _ _ _ _ _ _ _ r h => by simp [redactorref14_Expand.j1] at h, fun _ _ _ _ _ _ _ _ _ r h => by simp [redactorref14_Expand.j2] at h⟩
  | k + 1 => by
    obtain ⟨ih0, ih1, ih2⟩ := redactorref14_Expand.mono_l k
    refine ⟨?_, ?_, ?_⟩
    · intro y0 y1 y2 y3 y4
      unfold redactorref14_Expand.l0
      repeat' first
      | (with_reducible exact ih0 _ _ _ _ _)
      | (with_reducible exact ih1 _ _ _ _ _ _ _ _)
      | (with_reducible exact ih2 _ _ _ _ _ _ _ _ _)
      | (with_reducible exact LeO.refl _)
      | (with_reducible exact LeO.none _)
      | (with_reducible refine LeO.ite ?_ ?_)
      | (with_reducible refine LeO.bind ?_ (fun _ => ?_))
      | exact ih0 _ _ _ _ _
      | exact ih1 _ _ _ _ _ _ _ _
      | exact ih2 _ _ _ _ _ _ _ _ _
      | exact LeO.none _
      | refine LeO.ite ?_ ?_
      | refine LeO.bind ?_ (fun _ => ?_)
    · intro y0 y1 y2 y3 y4 y5 y6 y7
      unfold redactorref14_Expand.j1
      repeat' first
      | (with_reducible exact ih0 _ _ _ _ _)
      | (with_reducible exact ih1 _ _ _ _ _ _ _ _)
      | (with_reducible exact ih2 _ _ _ _ _ _ _ _ _)
      | (with_reducible exact LeO.refl _)
      | (with_reducible exact LeO.none _)
      | (with_reducible refine LeO.ite ?_ ?_)
      | (with_reducible refine LeO.bind ?_ (fun _ => ?_))
      | exact ih0 _ _ _ _ _
      | exact ih1 _ _ _ _ _ _ _ _
      | exact ih2 _ _ _ _ _ _ _ _ _
      | exact LeO.none _
      | refine LeO.ite ?_ ?_
      | refine LeO.bind ?_ (fun _ => ?_)
    · intro y0 y1 y2 y3 y4 y5 y6 y7 y8
      unfold redactorref14_Expand.j2
      repeat' first
      | (with_reducible exact ih0 _ _ _ _ _)
      | (with_reducible exact ih1 _ _ _ _ _ _ _ _)
      | (with_reducible exact ih2 _ _ _ _ _ _ _ _ _)
      | (with_reducible exact LeO.refl _)
      | (with_reducible exact LeO.none _)
      | (with_reducible refine LeO.ite ?_ ?_)
      | (with_reducible refine LeO.bind ?_ (fun _ => ?_))
      | exact ih0 _ _ _ _ _
      | exact ih1 _ _ _ _ _ _ _ _
      | exact ih2 _ _ _ _ _ _ _ _ _
      | exact LeO.none _
      | refine LeO.ite ?_ ?_
      | refine LeO.bind ?_ (fun _ => ?_)
theorem redactorref14_Expand.mono : ∀ a0 a1 a2 k, LeO (redactorref14_Expand.f k a0 a1 a2) (redactorref14_Expand.f (k + 1) a0 a1 a2) := by
  intro a0 a1 a2 k
  obtain ⟨ih0, ih1, ih2⟩ := redactorref14_Expand.mono_l k
  unfold redactorref14_Expand.f
  repeat' first
      | (with_reducible exact ih0 _ _ _ _ _)
      | (with_reducible exact ih1 _ _ _ _ _ _ _ _)
      | (with_reducible exact ih2 _ _ _ _ _ _ _ _ _)
      | (with_reducible exact LeO.refl _)
      | (with_reducible exact LeO.none _)
      | (with_reducible refine LeO.ite ?_ ?_)
      | (with_reducible refine LeO.bind ?_ (fun _ => ?_))
      | exact ih0 _ _ _ _ _
      | exact ih1 _ _ _ _ _ _ _ _
      | exact ih2 _ _ _ _ _ _ _ _ _
      | exact LeO.none _
      | refine LeO.ite ?_ ?_
      | refine LeO.bind ?_ (fun _ => ?_)
set_option maxHeartbeats 8000000 in
set_option maxRecDepth 100000 in
theorem redactorref14_Expand.calls (k : Nat) (A0 : Option Addr) (c0 : Nat) (l0 : List (S49)) (A1 : Option Addr) (c1 : Nat) (l1 : List Int) (A2 : Option Addr) (c2 : Nat) (l2 : List (S44)) (r : List Int) (w : World) (hr0 : Kd.C k49 w A0 l0.length l0) (hc0 : l0.length ≤ c0) (hr1 : Kd.C (Kd.int .i32) w A1 l1.length l1) (hc1 : l1.length ≤ c1) (hr2 : Kd.C k44 w A2 l2.length l2) (hc2 : l2.length ≤ c2) (h : redactorref14_Expand.f k l0 l1 l2 = some r) :
    Calls Try.prog 19 #[.slice A0 l0.length c0, .slice A1 l1.length c1, .slice A2 l2.length c2] w fun e w' => ∃ v0_ : Value, e = .returned (v0_) ∧ Kd.R (Kd.int .i32) 24 w' w.heap.size (fun _ => True) v0_ r ∧ Below w.heap.size w w' := by
  have hu49 := Try.underlying49
  have hu44 := Try.underlying44
  have HR0 := Aside0.mk hr0
  have HC0 := Aside0.mk hc0
  clear hr0 hc0
  have HR1 := Aside0.mk hr1
  have HC1 := Aside0.mk hc1
  clear hr1 hc1
  have HR2 := Aside0.mk hr2
  have HC2 := Aside0.mk hc2
  clear hr2 hc2
  have HB := Aside0.mk (Below.refl w.heap.size w)
  have H : (redactorref14_Expand.l0 k l0 l1 l2 ([] : List Int) 0) = some r := h
  clear h
  have H' := Aside0.mk H
  clear H
  go_enter Try.func19, Try.ntmps19
  go_wp2
  go_loopg [7, 8] k (fun kq v7 v8 w' => ∃ (x7_1 : List Int) (x8_1 : Int), v8 = .int .i64 x8_1 ∧ Aside0 (redactorref14_Expand.l0 kq l0 l1 l2 x7_1 x8_1 = some r) ∧ Aside0 (kq ≤ k) ∧ Aside0 (Kd.R (Kd.int .i32) 24 w' w.heap.size (fun _ => True) v7 x7_1) ∧ Aside0 (Below w.heap.size w w'))
  case atStart => exact ⟨(([] : List Int)), (0), (by first | rfl | (simp; done) | (simp [*]; done)), H', ⟨Nat.le_refl _⟩, ⟨by first | exact Kd.R_nil _ _ _ _ _ | exact Kd.N_nil _ _ _ _ _ | exact Kd.V_nil _ _ _ _ _ | exact Kd.Q_nil _ _ _ _ _ | exact Kd.S_nil _ _ _ _ _⟩, ⟨by repeat (first | (with_reducible first | exact HB.out | apply below_alloc | apply pw_below_drewN | apply below_drew1) | exact HB.out)⟩⟩
  case round =>
    clear H'
    try clear c1
    try clear c2
    try clear p2
    obtain ⟨x7_1, x8_1, rfl, HA, HK1, HO_7, HB⟩ := hrel
    cases gk with
    | zero => exact absurd HA.out (by simp [redactorref14_Expand.l0])
    | succ k1 =>
      have H := HA.out
      clear HA
      simp only [redactorref14_Expand.l0] at H
      by_cases c4 : x8_1 < (l0.length : Int)
      · rw [if_pos c4] at H
        have c4b0 : decide (x8_1 < (l0.length : Int)) = true := decide_eq_true c4
        clear c4
        by_cases c5 : 0 ≤ x8_1
        · rw [if_pos c5] at H
          have c5b0 : decide (0 ≤ x8_1) = true := decide_eq_true c5
          clear c5
          have HC6 := Aside0.mk H
          clear H
          have p359 : 0 ≤ (x8_1 : Int) := of_decide_eq_true (by first | (with_reducible assumption) | assumption)
          have q359 : x8_1 < (l0.length : Int) := of_decide_eq_true (by first | (with_reducible assumption) | assumption)
          obtain ⟨ad359, A359_1, c359_1, e359, hx359_0, hx359_1, hx359_2, hl359_1, hi359_1⟩ := at_T49 HR0.out x8_1 p359 q359
          cases e359
          replace hx359_0 := (HB.out.cell (World.block_lt_of_cell? w _ hx359_0)).trans hx359_0
          replace hx359_1 := (HB.out.cell (World.block_lt_of_cell? w _ hx359_1)).trans hx359_1
          replace hx359_2 := (HB.out.cell (World.block_lt_of_cell? w _ hx359_2)).trans hx359_2
          have HR359_1 := Aside0.mk hi359_1
          have HC359_1 := Aside0.mk hl359_1
          clear hi359_1 hl359_1
          replace p359 := eq_true p359
          replace q359 := eq_true q359
          go_upto_if 23 with (first | ((with_reducible refine gate_dst (N := 9) rfl ?_); (try (refine gate_guard (by rfl) ?_; dsimp only)); refine box_event ?hg (N := 9) ?hd (cs := #[.int .u8 0, .slice none 0 0, .int .i64 0]) (t := 49) ?hr ?_; (case hd => rfl); (case hg => rfl); (case hr => first | (go_simp; done) | (go_simp; rfl)); intro gb360 hg w7 hbox hb; have n0_ := Aside0.mk (Kd.R_below (by (with_reducible repeat (first | apply Kd.R_alloc | apply Kd.R_drewN | apply Kd.R_drew)); exact HO_7.out) hb); have n1_ := Aside0.mk (below_step (by repeat (first | (with_reducible first | exact HB.out | apply below_alloc | apply pw_below_drewN | apply below_drew1) | exact HB.out)) hb); have n2_ := Aside0.mk (hbox); have n3_ := Aside0.mk ((by rw [hg]; exact (below_size (by repeat (first | (with_reducible first | exact HB.out | apply below_alloc | apply pw_below_drewN | apply below_drew1) | exact HB.out))) : w.heap.size ≤ gb360)); have n4_ := Aside0.mk ((by rw [hg]; exact (below_size (by repeat (first | (with_reducible first | exact HB.out | apply below_alloc | apply pw_below_drewN | apply below_drew1) | exact HB.out))) : w.heap.size ≤ gb360)); clear HO_7; clear HB; have HO_7 := n0_; have HB := n1_; have BK360 := n2_; have GW360 := n3_; have GE360 := n4_; clear n0_ n1_ n2_ n3_ n4_; clear hb hbox hg; have hcz8_0 : w7.cell? ⟨gb360, 0, none⟩ = some (.int .u8 0) := (blk_cell BK360.out 0).trans rfl; have hcz8_1 : w7.cell? ⟨gb360, 1, none⟩ = some (.slice none 0 0) := (blk_cell BK360.out 1).trans rfl; have hcz8_2 : w7.cell? ⟨gb360, 2, none⟩ = some (.int .i64 0) := (blk_cell BK360.out 2).trans rfl; have hfz8_0 := blk_frozen BK360.out 0; have hfz8_1 := blk_frozen BK360.out 1; have hfz8_2 := blk_frozen BK360.out 2))
          (try simp only [Act.put, List.setIfInBounds_toArray, List.set_cons_zero, List.set_cons_succ])
          go_cut [7] (fun v7 wc => ∃ (kq : Nat) (x7_5 : List Int), Aside0 (redactorref14_Expand.j1 kq l0 l1 l2 x7_5 x8_1 ((rd_T49 l0 x8_1).f0) ((rd_T49 l0 x8_1).f1) ((rd_T49 l0 x8_1).f2) = some r) ∧ Aside0 (kq ≤ k1) ∧ Aside0 (Kd.R (Kd.int .i32) 24 wc w.heap.size (fun _ => True) v7 x7_5) ∧ Aside0 (wc.heap[gb360]? = some (.cells #[.int .u8 ((rd_T49 l0 x8_1).f0), (.slice A359_1 ((rd_T49 l0 x8_1).f1).length c359_1), .int .i64 ((rd_T49 l0 x8_1).f2)] 49 (0, 0))) ∧ Aside0 (Below w.heap.size w wc))
          case first =>
            have H := HC6.out
            clear HC6
            by_cases c9 : ((rd_T49 l0 x8_1).f0) = 1
            · rw [if_pos c9] at H
              have c9b0 : (((rd_T49 l0 x8_1).f0) == 1) = true := beq_iff_eq.mpr c9
              have c9b1 : (((rd_T49 l0 x8_1).f0) != 1) = false := bne_eq_false_iff_eq.mpr c9
              clear c9
              (first | rw [c9b0] | (simp only [i64_w, i32_w]; rw [c9b0]) | skip)
              by_cases c10 : x7_1.length + ((rd_T49 l0 x8_1).f1).length < 35184372088832
              · rw [if_pos c10] at H
                have LMc10 := Aside0.mk c10
                clear c10
                obtain ⟨y361, hy361⟩ : ∃ y_ : List Int, y_ = (x7_1 ++ ((rd_T49 l0 x8_1).f1)) := ⟨_, rfl⟩
                replace H : (redactorref14_Expand.j1 k1 l0 l1 l2 y361 x8_1 ((rd_T49 l0 x8_1).f0) ((rd_T49 l0 x8_1).f1) ((rd_T49 l0 x8_1).f2)) = some r := by first | (rw [hy361]; with_reducible exact H) | (have H2_ := (Option.bind_some _ _).symm.trans H; rw [hy361]; with_reducible exact H2_) | (have H2_ := (Option.bind_some _ _).symm.trans H; with_reducible exact H2_) | with_reducible exact H | (rw [hy361]; exact H) | exact H
                have Ny361 := Aside0.mk hy361
                clear hy361
                have H' := Aside0.mk H
                clear H
                have hcz11_0 : w7.cell? ⟨gb360, 0, none⟩ = some (.int .u8 0) := (blk_cell BK360.out 0).trans rfl
                have hcz11_1 : w7.cell? ⟨gb360, 1, none⟩ = some (.slice none 0 0) := (blk_cell BK360.out 1).trans rfl
                have hcz11_2 : w7.cell? ⟨gb360, 2, none⟩ = some (.int .i64 0) := (blk_cell BK360.out 2).trans rfl
                have hfz11_0 := blk_frozen BK360.out 0
                have hfz11_1 := blk_frozen BK360.out 1
                have hfz11_2 := blk_frozen BK360.out 2
                go_wp2_with (first | ((with_reducible refine gate_builtin (b := .append) (xs := #[.tmp 24, .tmp 26]) rfl ?_); (try (refine gate_guard (by rfl) ?_; dsimp only)); at_builtin; refine Kd.R_append_rows (Kd.int .i32) (w0 := w) w.heap.size rfl (.tmp 24) (.tmp 26) 23 24 (.int .i32 0) 4 rfl Try.underlying23 info24 rfl (by decide) (by omega) u7 x7_1 ((rd_T49 l0 x8_1).f1) _ _ _ (fun _ => True) (fun _ => False) rfl rfl ?aO ?aR (fun _ _ h => h) (fun _ h => h.elim) ?aF ?aB ?aS ?aL ?_; (case aR => exact Kd.C_below HR359_1.out (by repeat (first | (with_reducible first | exact HB.out | apply below_alloc | apply pw_below_drewN | apply below_drew1 | refine below_set ?_ GE360.out) | exact HB.out))); (case aB => exact (by repeat (first | (with_reducible first | exact HB.out | apply below_alloc | apply pw_below_drewN | apply below_drew1 | refine below_set ?_ GE360.out) | exact HB.out))); (case aF => exact (fun _ _ => trivial)); (case aO => exact (by (with_reducible repeat (first | apply Kd.R_alloc | apply Kd.R_drewN | apply Kd.R_drew)); exact Kd.R_mono (Kd.R_far (p := ⟨gb360, 2, none⟩) (Kd.R_far (p := ⟨gb360, 1, none⟩) (Kd.R_far (p := ⟨gb360, 0, none⟩) (Kd.R_types HO_7.out BK360.out (by decide)) (fun _ hk => hk.2) (.int .u8 ((rd_T49 l0 x8_1).f0))) (fun _ hk => hk.2) (.slice A359_1 ((rd_T49 l0 x8_1).f1).length c359_1)) (fun _ hk => hk.2) (.int .i64 ((rd_T49 l0 x8_1).f2))) (fun _ hk => trivial))); (case aS => exact (below_size (by repeat (first | (with_reducible first | exact HB.out | apply below_alloc | apply pw_below_drewN | apply below_drew1 | refine below_set ?_ GE360.out) | exact HB.out)))); (case aL => have := LMc10.out; omega); intro v362 w12 ho hb hg hat; rw [← Ny361.out] at ho; have n0_ := Aside0.mk (blk_grown (g := gb360) (o := .cells #[.int .u8 ((rd_T49 l0 x8_1).f0), .slice A359_1 ((rd_T49 l0 x8_1).f1).length c359_1, .int .i64 ((rd_T49 l0 x8_1).f2)] 49 (0, 0)) (by (with_reducible repeat (first | refine blk_drewN ?_ _ | refine blk_drew ?_ | refine blk_alloc ?_ _)); refine blk_put (cs := #[.int .u8 ((rd_T49 l0 x8_1).f0), .slice A359_1 ((rd_T49 l0 x8_1).f1).length c359_1, .int .i64 0]) ?_ 2 _ rfl; (with_reducible repeat (first | refine blk_drewN ?_ _ | refine blk_drew ?_ | refine blk_alloc ?_ _)); refine blk_put (cs := #[.int .u8 ((rd_T49 l0 x8_1).f0), .slice none 0 0, .int .i64 0]) ?_ 1 _ rfl; (with_reducible repeat (first | refine blk_drewN ?_ _ | refine blk_drew ?_ | refine blk_alloc ?_ _)); refine blk_put (cs := #[.int .u8 0, .slice none 0 0, .int .i64 0]) ?_ 0 _ rfl; (with_reducible repeat (first | refine blk_drewN ?_ _ | refine blk_drew ?_ | refine blk_alloc ?_ _)); exact BK360.out) hg (Kd.R_ne HO_7.out BK360.out (by decide))); have n1_ := Aside0.mk (hb); have n2_ := Aside0.mk (ho); clear BK360; clear HB; clear HO_7; have BK360 := n0_; have HB := n1_; have HO363 := n2_; clear n0_ n1_ n2_; clear ho hb hg hat))
                go_meet
                case rel => exact ⟨_, (y361), H', ⟨by have := HK1.out; first | omega | exact Nat.le_refl _⟩, ⟨by (with_reducible repeat (first | apply Kd.R_alloc | apply Kd.R_drewN | apply Kd.R_drew)); exact HO363.out⟩, ⟨by (with_reducible repeat (first | refine blk_drewN ?_ _ | refine blk_drew ?_ | refine blk_alloc ?_ _)); exact BK360.out⟩, ⟨by repeat (first | (with_reducible first | exact HB.out | apply below_alloc | apply pw_below_drewN | apply below_drew1 | refine below_set ?_ GE360.out) | exact HB.out)⟩⟩
              · rw [if_neg c10] at H
                exact absurd H (by simp)
            · rw [if_neg c9] at H
              have c9b0 : (((rd_T49 l0 x8_1).f0) == 1) = false := beq_eq_false_iff_ne.mpr c9
              have c9b1 : (((rd_T49 l0 x8_1).f0) != 1) = true := bne_iff_ne.mpr c9
              (first | rw [c9b0] | (simp only [i64_w, i32_w]; rw [c9b0]) | skip)
              have H' := Aside0.mk H
              clear H
              go_wp2
              go_meet
              case rel => exact ⟨_, (x7_1), H', ⟨by have := HK1.out; first | omega | exact Nat.le_refl _⟩, ⟨by (with_reducible repeat (first | apply Kd.R_alloc | apply Kd.R_drewN | apply Kd.R_drew)); exact Kd.R_mono (Kd.R_far (p := ⟨gb360, 2, none⟩) (Kd.R_far (p := ⟨gb360, 1, none⟩) (Kd.R_far (p := ⟨gb360, 0, none⟩) (Kd.R_types HO_7.out BK360.out (by decide)) (fun _ hk => hk.2) (.int .u8 ((rd_T49 l0 x8_1).f0))) (fun _ hk => hk.2) (.slice A359_1 ((rd_T49 l0 x8_1).f1).length c359_1)) (fun _ hk => hk.2) (.int .i64 ((rd_T49 l0 x8_1).f2))) (fun _ hk => trivial)⟩, ⟨by (with_reducible repeat (first | refine blk_drewN ?_ _ | refine blk_drew ?_ | refine blk_alloc ?_ _)); refine blk_put (cs := #[.int .u8 ((rd_T49 l0 x8_1).f0), .slice A359_1 ((rd_T49 l0 x8_1).f1).length c359_1, .int .i64 0]) ?_ 2 _ rfl; (with_reducible repeat (first | refine blk_drewN ?_ _ | refine blk_drew ?_ | refine blk_alloc ?_ _)); refine blk_put (cs := #[.int .u8 ((rd_T49 l0 x8_1).f0), .slice none 0 0, .int .i64 0]) ?_ 1 _ rfl; (with_reducible repeat (first | refine blk_drewN ?_ _ | refine blk_drew ?_ | refine blk_alloc ?_ _)); refine blk_put (cs := #[.int .u8 0, .slice none 0 0, .int .i64 0]) ?_ 0 _ rfl; (with_reducible repeat (first | refine blk_drewN ?_ _ | refine blk_drew ?_ | refine blk_alloc ?_ _)); exact BK360.out⟩, ⟨by repeat (first | (with_reducible first | exact HB.out | apply below_alloc | apply pw_below_drewN | apply below_drew1 | refine below_set ?_ GE360.out) | exact HB.out)⟩⟩
          case rest =>
            clear HC6
            try clear c1
            try clear c2
            try clear p2
            try clear c3
            try clear p3
            try clear q3
            try clear hx3
            try clear c4
            try clear c4b0
            try clear c5
            try clear c5b0
            try clear c9
            try clear c9b0
            try clear c9b1
            try clear c10
            try clear hcz11_0
            try clear hcz11_1
            try clear hcz11_2
            try clear hcz8_0
            try clear hcz8_1
            try clear hcz8_2
            try clear hfz11_0
            try clear hfz11_1
            try clear hfz11_2
            try clear hfz8_0
            try clear hfz8_1
            try clear hfz8_2
            try clear hx359_0
            try clear hx359_1
            try clear hx359_2
            try clear p2
            try clear p359
            try clear q359
            obtain ⟨kq, x7_5, HA, HJ5, HO_7, BK360, HB⟩ := hcut
            cases kq with
            | zero => exact absurd HA.out (by simp [redactorref14_Expand.j1])
            | succ kj5 =>
              have H := HA.out
              clear HA
              simp only [redactorref14_Expand.j1] at H
              have HC13 := Aside0.mk H
              clear H
              go_upto_region 8 with (fail)
              go_cut [42] (fun v42 wc => ∃ (kq : Nat) (x42_12 : Bool), v42 = .bool x42_12 ∧ Aside0 (redactorref14_Expand.j2 kq l0 l1 l2 x7_5 x8_1 x42_12 ((rd_T49 l0 x8_1).f0) ((rd_T49 l0 x8_1).f1) ((rd_T49 l0 x8_1).f2) = some r) ∧ Aside0 (kq ≤ kj5) ∧ Aside0 (Kd.R (Kd.int .i32) 24 wc w.heap.size (fun _ => True) u7 x7_5) ∧ Aside0 (wc.heap[gb360]? = some (.cells #[.int .u8 ((rd_T49 l0 x8_1).f0), (.slice A359_1 ((rd_T49 l0 x8_1).f1).length c359_1), .int .i64 ((rd_T49 l0 x8_1).f2)] 49 (0, 0))) ∧ Aside0 (Below w.heap.size w wc))
              case first =>
                have H := HC13.out
                clear HC13
                by_cases c14 : ((rd_T49 l0 x8_1).f0) = 2
                · rw [if_pos c14] at H
                  have c14b0 : (((rd_T49 l0 x8_1).f0) == 2) = true := beq_iff_eq.mpr c14
                  have c14b1 : (((rd_T49 l0 x8_1).f0) != 2) = false := bne_eq_false_iff_eq.mpr c14
                  clear c14
                  (first | rw [c14b0] | (simp only [i64_w, i32_w]; rw [c14b0]) | skip)
                  by_cases c15 : ((rd_T49 l0 x8_1).f2) ≥ 0
                  · rw [if_pos c15] at H
                    have c15b0 : decide (0 ≤ ((rd_T49 l0 x8_1).f2)) = true := decide_eq_true c15
                    clear c15
                    have H' := Aside0.mk H
                    clear H
                    have hcz16_0 : wc.cell? ⟨gb360, 0, none⟩ = some (.int .u8 ((rd_T49 l0 x8_1).f0)) := (blk_cell BK360.out 0).trans rfl
                    have hcz16_1 : wc.cell? ⟨gb360, 1, none⟩ = some (.slice A359_1 ((rd_T49 l0 x8_1).f1).length c359_1) := (blk_cell BK360.out 1).trans rfl
                    have hcz16_2 : wc.cell? ⟨gb360, 2, none⟩ = some (.int .i64 ((rd_T49 l0 x8_1).f2)) := (blk_cell BK360.out 2).trans rfl
                    have hfz16_0 := blk_frozen BK360.out 0
                    have hfz16_1 := blk_frozen BK360.out 1
                    have hfz16_2 := blk_frozen BK360.out 2
                    go_wp2
                    go_meet
                    case rel => exact ⟨_, (decide (((rd_T49 l0 x8_1).f2) < (l2.length : Int))), (by first | rfl | (simp; done) | (simp [*]; done)), H', ⟨by have := HK1.out; have := HJ5.out; first | omega | exact Nat.le_refl _⟩, ⟨by (with_reducible repeat (first | apply Kd.R_alloc | apply Kd.R_drewN | apply Kd.R_drew)); exact HO_7.out⟩, ⟨by (with_reducible repeat (first | refine blk_drewN ?_ _ | refine blk_drew ?_ | refine blk_alloc ?_ _)); exact BK360.out⟩, ⟨by repeat (first | (with_reducible first | exact HB.out | apply below_alloc | apply pw_below_drewN | apply below_drew1 | refine below_set ?_ GE360.out) | exact HB.out)⟩⟩
                  · rw [if_neg c15] at H
                    have c15b0 : decide (0 ≤ ((rd_T49 l0 x8_1).f2)) = false := decide_eq_false c15
                    clear c15
                    have H' := Aside0.mk H
                    clear H
                    have hcz17_0 : wc.cell? ⟨gb360, 0, none⟩ = some (.int .u8 ((rd_T49 l0 x8_1).f0)) := (blk_cell BK360.out 0).trans rfl
                    have hcz17_1 : wc.cell? ⟨gb360, 1, none⟩ = some (.slice A359_1 ((rd_T49 l0 x8_1).f1).length c359_1) := (blk_cell BK360.out 1).trans rfl
                    have hcz17_2 : wc.cell? ⟨gb360, 2, none⟩ = some (.int .i64 ((rd_T49 l0 x8_1).f2)) := (blk_cell BK360.out 2).trans rfl
                    have hfz17_0 := blk_frozen BK360.out 0
                    have hfz17_1 := blk_frozen BK360.out 1
                    have hfz17_2 := blk_frozen BK360.out 2
                    go_wp2
                    go_meet
                    case rel => exact ⟨_, (false), (by first | rfl | (simp; done) | (simp [*]; done)), H', ⟨by have := HK1.out; have := HJ5.out; first | omega | exact Nat.le_refl _⟩, ⟨by (with_reducible repeat (first | apply Kd.R_alloc | apply Kd.R_drewN | apply Kd.R_drew)); exact HO_7.out⟩, ⟨by (with_reducible repeat (first | refine blk_drewN ?_ _ | refine blk_drew ?_ | refine blk_alloc ?_ _)); exact BK360.out⟩, ⟨by repeat (first | (with_reducible first | exact HB.out | apply below_alloc | apply pw_below_drewN | apply below_drew1 | refine below_set ?_ GE360.out) | exact HB.out)⟩⟩
                · rw [if_neg c14] at H
                  have c14b0 : (((rd_T49 l0 x8_1).f0) == 2) = false := beq_eq_false_iff_ne.mpr c14
                  have c14b1 : (((rd_T49 l0 x8_1).f0) != 2) = true := bne_iff_ne.mpr c14
                  (first | rw [c14b0] | (simp only [i64_w, i32_w]; rw [c14b0]) | skip)
                  have H' := Aside0.mk H
                  clear H
                  have hcz18_0 : wc.cell? ⟨gb360, 0, none⟩ = some (.int .u8 ((rd_T49 l0 x8_1).f0)) := (blk_cell BK360.out 0).trans rfl
                  have hcz18_1 : wc.cell? ⟨gb360, 1, none⟩ = some (.slice A359_1 ((rd_T49 l0 x8_1).f1).length c359_1) := (blk_cell BK360.out 1).trans rfl
                  have hcz18_2 : wc.cell? ⟨gb360, 2, none⟩ = some (.int .i64 ((rd_T49 l0 x8_1).f2)) := (blk_cell BK360.out 2).trans rfl
                  have hfz18_0 := blk_frozen BK360.out 0
                  have hfz18_1 := blk_frozen BK360.out 1
                  have hfz18_2 := blk_frozen BK360.out 2
                  go_wp2
                  go_meet
                  case rel => exact ⟨_, (false), (by first | rfl | (simp; done) | (simp [*]; done)), H', ⟨by have := HK1.out; have := HJ5.out; first | omega | exact Nat.le_refl _⟩, ⟨by (with_reducible repeat (first | apply Kd.R_alloc | apply Kd.R_drewN | apply Kd.R_drew)); exact HO_7.out⟩, ⟨by (with_reducible repeat (first | refine blk_drewN ?_ _ | refine blk_drew ?_ | refine blk_alloc ?_ _)); exact BK360.out⟩, ⟨by repeat (first | (with_reducible first | exact HB.out | apply below_alloc | apply pw_below_drewN | apply below_drew1 | refine below_set ?_ GE360.out) | exact HB.out)⟩⟩
              case rest =>
                clear HC13
                try clear c1
                try clear c2
                try clear p2
                try clear c3
                try clear p3
                try clear q3
                try clear hx3
                try clear c4
                try clear c4b0
                try clear c5
                try clear c5b0
                try clear c9
                try clear c9b0
                try clear c9b1
                try clear c10
                try clear c14
                try clear c14b0
                try clear c14b1
                try clear c15
                try clear c15b0
                try clear hcz11_0
                try clear hcz11_1
                try clear hcz11_2
                try clear hcz16_0
                try clear hcz16_1
                try clear hcz16_2
                try clear hcz17_0
                try clear hcz17_1
                try clear hcz17_2
                try clear hcz18_0
                try clear hcz18_1
                try clear hcz18_2
                try clear hcz8_0
                try clear hcz8_1
                try clear hcz8_2
                try clear hfz11_0
                try clear hfz11_1
                try clear hfz11_2
                try clear hfz16_0
                try clear hfz16_1
                try clear hfz16_2
                try clear hfz17_0
                try clear hfz17_1
                try clear hfz17_2
                try clear hfz18_0
                try clear hfz18_1
                try clear hfz18_2
                try clear hfz8_0
                try clear hfz8_1
                try clear hfz8_2
                try clear hx359_0
                try clear hx359_1
                try clear hx359_2
                try clear p2
                try clear p3
                try clear p359
                try clear q3
                try clear q359
                obtain ⟨kq, x42_12, rfl, HA, HJ12, HO_7, BK360, HB⟩ := hcut
                cases kq with
                | zero => exact absurd HA.out (by simp [redactorref14_Expand.j2])
                | succ kj12 =>
                  have H := HA.out
                  clear HA
                  simp only [redactorref14_Expand.j2] at H
                  by_cases c19 : x42_12 = true
                  · subst c19
                    have H1 : (if 0 ≤ ((rd_T49 l0 x8_1).f2) then (if ((rd_T49 l0 x8_1).f2) < (l2.length : Int) then (if ((rd_T44 l2 ((rd_T49 l0 x8_1).f2)).f0) ≥ 0 then (if ((rd_T44 l2 ((rd_T49 l0 x8_1).f2)).f0) ≤ ((rd_T44 l2 ((rd_T49 l0 x8_1).f2)).f1) then (if ((rd_T44 l2 ((rd_T49 l0 x8_1).f2)).f1) ≤ (l1.length : Int) then (if 0 ≤ ((rd_T44 l2 ((rd_T49 l0 x8_1).f2)).f0) then (if x7_5.length + ((l1.take (((rd_T44 l2 ((rd_T49 l0 x8_1).f2)).f1) : Int).toNat).drop (((rd_T44 l2 ((rd_T49 l0 x8_1).f2)).f0) : Int).toNat).length < 35184372088832 then (redactorref14_Expand.l0 kj12 l0 l1 l2 (x7_5 ++ ((l1.take (((rd_T44 l2 ((rd_T49 l0 x8_1).f2)).f1) : Int).toNat).drop (((rd_T44 l2 ((rd_T49 l0 x8_1).f2)).f0) : Int).toNat)) (wrap64 (x8_1 + 1))) else (none)) else (none)) else (redactorref14_Expand.l0 kj12 l0 l1 l2 x7_5 (wrap64 (x8_1 + 1)))) else (redactorref14_Expand.l0 kj12 l0 l1 l2 x7_5 (wrap64 (x8_1 + 1)))) else (redactorref14_Expand.l0 kj12 l0 l1 l2 x7_5 (wrap64 (x8_1 + 1)))) else (none)) else (none)) = some r := by rw [if_pos rfl] at H; exact H
                    clear H
                    have H := H1
                    clear H1
                    by_cases c20 : 0 ≤ ((rd_T49 l0 x8_1).f2)
                    · rw [if_pos c20] at H
                      have c20b0 : decide (0 ≤ ((rd_T49 l0 x8_1).f2)) = true := decide_eq_true c20
                      clear c20
                      by_cases c21 : ((rd_T49 l0 x8_1).f2) < (l2.length : Int)
                      · rw [if_pos c21] at H
                        have c21b0 : decide (((rd_T49 l0 x8_1).f2) < (l2.length : Int)) = true := decide_eq_true c21
                        clear c21
                        by_cases c22 : ((rd_T44 l2 ((rd_T49 l0 x8_1).f2)).f0) ≥ 0
                        · rw [if_pos c22] at H
                          have c22b0 : decide (0 ≤ ((rd_T44 l2 ((rd_T49 l0 x8_1).f2)).f0)) = true := decide_eq_true c22
                          clear c22
                          by_cases c23 : ((rd_T44 l2 ((rd_T49 l0 x8_1).f2)).f0) ≤ ((rd_T44 l2 ((rd_T49 l0 x8_1).f2)).f1)
                          · rw [if_pos c23] at H
                            have c23b0 : decide (((rd_T44 l2 ((rd_T49 l0 x8_1).f2)).f0) ≤ ((rd_T44 l2 ((rd_T49 l0 x8_1).f2)).f1)) = true := decide_eq_true c23
                            clear c23
                            by_cases c24 : ((rd_T44 l2 ((rd_T49 l0 x8_1).f2)).f1) ≤ (l1.length : Int)
                            · rw [if_pos c24] at H
                              have c24b0 : decide (((rd_T44 l2 ((rd_T49 l0 x8_1).f2)).f1) ≤ (l1.length : Int)) = true := decide_eq_true c24
                              clear c24
                              by_cases c25 : 0 ≤ ((rd_T44 l2 ((rd_T49 l0 x8_1).f2)).f0)
                              · rw [if_pos c25] at H
                                have c25b0 := eq_true c25
                                have c25b1 : decide (0 ≤ ((rd_T44 l2 ((rd_T49 l0 x8_1).f2)).f0)) = true := decide_eq_true c25
                                clear c25
                                have c26b0 := eq_true (of_decide_eq_true (by first | (with_reducible assumption) | assumption) : ((rd_T44 l2 ((rd_T49 l0 x8_1).f2)).f0) ≤ ((rd_T44 l2 ((rd_T49 l0 x8_1).f2)).f1))
                                have c27b0 := eq_true (of_decide_eq_true (by first | (with_reducible assumption) | assumption) : ((rd_T44 l2 ((rd_T49 l0 x8_1).f2)).f1) ≤ (l1.length : Int))
                                by_cases c28 : x7_5.length + ((l1.take (((rd_T44 l2 ((rd_T49 l0 x8_1).f2)).f1) : Int).toNat).drop (((rd_T44 l2 ((rd_T49 l0 x8_1).f2)).f0) : Int).toNat).length < 35184372088832
                                · rw [if_pos c28] at H
                                  have LMc28 := Aside0.mk c28
                                  clear c28
                                  obtain ⟨y367, hy367⟩ : ∃ y_ : List Int, y_ = (x7_5 ++ ((l1.take (((rd_T44 l2 ((rd_T49 l0 x8_1).f2)).f1) : Int).toNat).drop (((rd_T44 l2 ((rd_T49 l0 x8_1).f2)).f0) : Int).toNat)) := ⟨_, rfl⟩
                                  replace H : (redactorref14_Expand.l0 kj12 l0 l1 l2 y367 (wrap64 (x8_1 + 1))) = some r := by first | (rw [hy367]; with_reducible exact H) | (have H2_ := (Option.bind_some _ _).symm.trans H; rw [hy367]; with_reducible exact H2_) | (have H2_ := (Option.bind_some _ _).symm.trans H; with_reducible exact H2_) | with_reducible exact H | (rw [hy367]; exact H) | exact H
                                  have Ny367 := Aside0.mk hy367
                                  clear hy367
                                  have H' := Aside0.mk H
                                  clear H
                                  have hcz29_0 : wc.cell? ⟨gb360, 0, none⟩ = some (.int .u8 ((rd_T49 l0 x8_1).f0)) := (blk_cell BK360.out 0).trans rfl
                                  have hcz29_1 : wc.cell? ⟨gb360, 1, none⟩ = some (.slice A359_1 ((rd_T49 l0 x8_1).f1).length c359_1) := (blk_cell BK360.out 1).trans rfl
                                  have hcz29_2 : wc.cell? ⟨gb360, 2, none⟩ = some (.int .i64 ((rd_T49 l0 x8_1).f2)) := (blk_cell BK360.out 2).trans rfl
                                  have hfz29_0 := blk_frozen BK360.out 0
                                  have hfz29_1 := blk_frozen BK360.out 1
                                  have hfz29_2 := blk_frozen BK360.out 2
                                  have p364 : 0 ≤ (((rd_T49 l0 x8_1).f2) : Int) := of_decide_eq_true (by first | (with_reducible assumption) | assumption)
                                  have q364 : ((rd_T49 l0 x8_1).f2) < (l2.length : Int) := of_decide_eq_true (by first | (with_reducible assumption) | assumption)
                                  obtain ⟨ad364, e364, hx364_0, hx364_1⟩ := at_T44 HR2.out ((rd_T49 l0 x8_1).f2) p364 q364
                                  cases e364
                                  replace hx364_0 := (HB.out.cell (World.block_lt_of_cell? w _ hx364_0)).trans hx364_0
                                  replace hx364_1 := (HB.out.cell (World.block_lt_of_cell? w _ hx364_1)).trans hx364_1
                                  replace p364 := eq_true p364
                                  replace q364 := eq_true q364
                                  go_wp2_with (first | ((with_reducible refine gate_dst (N := 10) rfl ?_); (try (refine gate_guard (by rfl) ?_; dsimp only)); refine box_event ?hg (N := 10) ?hd (cs := #[.int .i64 0, .int .i64 0]) (t := 44) ?hr ?_; (case hd => rfl); (case hg => rfl); (case hr => first | (go_simp; done) | (go_simp; rfl)); intro gb365 hg w30 hbox hb; have n0_ := Aside0.mk (Kd.R_below (by (with_reducible repeat (first | apply Kd.R_alloc | apply Kd.R_drewN | apply Kd.R_drew)); exact HO_7.out) hb); have n1_ := Aside0.mk (blk_below (g := gb360) (o := .cells #[.int .u8 ((rd_T49 l0 x8_1).f0), .slice A359_1 ((rd_T49 l0 x8_1).f1).length c359_1, .int .i64 ((rd_T49 l0 x8_1).f2)] 49 (0, 0)) (by (with_reducible repeat (first | refine blk_drewN ?_ _ | refine blk_drew ?_ | refine blk_alloc ?_ _)); exact BK360.out) hb); have n2_ := Aside0.mk (below_step (by repeat (first | (with_reducible first | exact HB.out | apply below_alloc | apply pw_below_drewN | apply below_drew1 | refine below_set ?_ GE360.out) | exact HB.out)) hb); have n3_ := Aside0.mk (hbox); have n4_ := Aside0.mk ((by rw [hg]; exact (below_size (by repeat (first | (with_reducible first | exact HB.out | apply below_alloc | apply pw_below_drewN | apply below_drew1 | refine below_set ?_ GE360.out) | exact HB.out))) : w.heap.size ≤ gb365)); have n5_ := Aside0.mk ((by rw [hg]; exact (below_size (by repeat (first | (with_reducible first | exact HB.out | apply below_alloc | apply pw_below_drewN | apply below_drew1 | refine below_set ?_ GE360.out) | exact HB.out))) : w.heap.size ≤ gb365)); have n6_ := Aside0.mk ((by rw [hg]; exact Nat.ne_of_lt (blk_lt (g := gb360) (o := .cells #[.int .u8 ((rd_T49 l0 x8_1).f0), .slice A359_1 ((rd_T49 l0 x8_1).f1).length c359_1, .int .i64 ((rd_T49 l0 x8_1).f2)] 49 (0, 0)) (by (with_reducible repeat (first | refine blk_drewN ?_ _ | refine blk_drew ?_ | refine blk_alloc ?_ _)); exact BK360.out)) : gb360 ≠ gb365)); have n7_ := Aside0.mk ((by rw [hg]; exact Nat.ne_of_gt (blk_lt (g := gb360) (o := .cells #[.int .u8 ((rd_T49 l0 x8_1).f0), .slice A359_1 ((rd_T49 l0 x8_1).f1).length c359_1, .int .i64 ((rd_T49 l0 x8_1).f2)] 49 (0, 0)) (by (with_reducible repeat (first | refine blk_drewN ?_ _ | refine blk_drew ?_ | refine blk_alloc ?_ _)); exact BK360.out)) : gb365 ≠ gb360)); clear HO_7; clear BK360; clear HB; have HO_7 := n0_; have BK360 := n1_; have HB := n2_; have BK365 := n3_; have GW365 := n4_; have GE365 := n5_; have NB360_365 := n6_; have NB365_360 := n7_; clear n0_ n1_ n2_ n3_ n4_ n5_ n6_ n7_; clear hb hbox hg; have hnb31 := NB365_360.out; have hnc31 := NB360_365.out; have hcz32_0 : w30.cell? ⟨gb365, 0, none⟩ = some (.int .i64 0) := (blk_cell BK365.out 0).trans rfl; have hcz32_1 : w30.cell? ⟨gb365, 1, none⟩ = some (.int .i64 0) := (blk_cell BK365.out 1).trans rfl; have hfz32_0 := blk_frozen BK365.out 0; have hfz32_1 := blk_frozen BK365.out 1; obtain ⟨i033, hi033, _, hsz33, _⟩ := info_parts info24; obtain ⟨A33, hcut33, hA33, hC33⟩ := print_mid_of (P := Try.prog) (Value.int .i32) 0 23 24 .i64 .i64 Try.underlying23 hi033 hsz33 A1 c1 l1 ((rd_T44 l2 ((rd_T49 l0 x8_1).f2)).f0) ((rd_T44 l2 ((rd_T49 l0 x8_1).f2)).f1) (of_decide_eq_true (by first | (with_reducible assumption) | assumption)) (by first | omega | exact of_decide_eq_true (by first | (with_reducible assumption) | assumption)) (of_decide_eq_true (by first | (with_reducible assumption) | assumption)) HC1.out; have HR366 := Aside0.mk (Kd.C_of_reads (h1 := fun _ => rfl) (hA33 _ (Kd.reads_of_C HR1.out))); have HC366 := Aside0.mk hC33; clear hA33 hC33 hi033 hsz33) | ((with_reducible refine gate_builtin (b := .append) (xs := #[.tmp 65, .tmp 71]) rfl ?_); (try (refine gate_guard (by rfl) ?_; dsimp only)); at_builtin; refine Kd.R_append_rows (Kd.int .i32) (w0 := w) w.heap.size rfl (.tmp 65) (.tmp 71) 23 24 (.int .i32 0) 4 rfl Try.underlying23 info24 rfl (by decide) (by omega) u7 x7_5 ((l1.take (((rd_T44 l2 ((rd_T49 l0 x8_1).f2)).f1) : Int).toNat).drop (((rd_T44 l2 ((rd_T49 l0 x8_1).f2)).f0) : Int).toNat) _ _ _ (fun _ => True) (fun _ => False) rfl rfl ?aO ?aR (fun _ _ h => h) (fun _ h => h.elim) ?aF ?aB ?aS ?aL ?_; (case aR => first | (rw [← show ((l1.take (((rd_T44 l2 ((rd_T49 l0 x8_1).f2)).f1) : Int).toNat).drop (((rd_T44 l2 ((rd_T49 l0 x8_1).f2)).f0) : Int).toNat).length = (((rd_T44 l2 ((rd_T49 l0 x8_1).f2)).f1).toNat - ((rd_T44 l2 ((rd_T49 l0 x8_1).f2)).f0).toNat) from (by rw [List.length_drop, List.length_take]; have h_ : (((rd_T44 l2 ((rd_T49 l0 x8_1).f2)).f1) : Int) ≤ (l1.length : Int) := of_decide_eq_true (by first | (with_reducible assumption) | assumption); omega)]; exact Kd.C_below HR366.out (by repeat (first | (with_reducible first | exact HB.out | apply below_alloc | apply pw_below_drewN | apply below_drew1 | refine below_set ?_ GE360.out | refine below_set ?_ GE365.out) | exact HB.out))) | (exact Kd.C_below HR366.out (by repeat (first | (with_reducible first | exact HB.out | apply below_alloc | apply pw_below_drewN | apply below_drew1 | refine below_set ?_ GE360.out | refine below_set ?_ GE365.out) | exact HB.out)))); (case aB => exact (by repeat (first | (with_reducible first | exact HB.out | apply below_alloc | apply pw_below_drewN | apply below_drew1 | refine below_set ?_ GE360.out | refine below_set ?_ GE365.out) | exact HB.out))); (case aF => exact (fun _ _ => trivial)); (case aO => exact (by (with_reducible repeat (first | apply Kd.R_alloc | apply Kd.R_drewN | apply Kd.R_drew)); exact Kd.R_mono (Kd.R_far (p := ⟨gb365, 1, none⟩) (Kd.R_far (p := ⟨gb365, 0, none⟩) (Kd.R_types HO_7.out BK365.out (by decide)) (fun _ hk => hk.2) (.int .i64 ((rd_T44 l2 ((rd_T49 l0 x8_1).f2)).f0))) (fun _ hk => hk.2) (.int .i64 ((rd_T44 l2 ((rd_T49 l0 x8_1).f2)).f1))) (fun _ hk => trivial))); (case aS => exact (below_size (by repeat (first | (with_reducible first | exact HB.out | apply below_alloc | apply pw_below_drewN | apply below_drew1 | refine below_set ?_ GE360.out | refine below_set ?_ GE365.out) | exact HB.out)))); (case aL => have := LMc28.out; have hlx_ := (show ((l1.take (((rd_T44 l2 ((rd_T49 l0 x8_1).f2)).f1) : Int).toNat).drop (((rd_T44 l2 ((rd_T49 l0 x8_1).f2)).f0) : Int).toNat).length = (((rd_T44 l2 ((rd_T49 l0 x8_1).f2)).f1).toNat - ((rd_T44 l2 ((rd_T49 l0 x8_1).f2)).f0).toNat) from (by rw [List.length_drop, List.length_take]; have h_ : (((rd_T44 l2 ((rd_T49 l0 x8_1).f2)).f1) : Int) ≤ (l1.length : Int) := of_decide_eq_true (by first | (with_reducible assumption) | assumption); omega)); omega); intro v368 w34 ho hb hg hat; rw [← Ny367.out] at ho; have n0_ := Aside0.mk (blk_grown (g := gb360) (o := .cells #[.int .u8 ((rd_T49 l0 x8_1).f0), .slice A359_1 ((rd_T49 l0 x8_1).f1).length c359_1, .int .i64 ((rd_T49 l0 x8_1).f2)] 49 (0, 0)) (by (with_reducible repeat (first | refine blk_drewN ?_ _ | refine blk_drew ?_ | refine blk_alloc ?_ _)); refine blk_far ?_ NB360_365.out _; (with_reducible repeat (first | refine blk_drewN ?_ _ | refine blk_drew ?_ | refine blk_alloc ?_ _)); refine blk_far ?_ NB360_365.out _; (with_reducible repeat (first | refine blk_drewN ?_ _ | refine blk_drew ?_ | refine blk_alloc ?_ _)); exact BK360.out) hg (Kd.R_ne HO_7.out BK360.out (by decide))); have n1_ := Aside0.mk (blk_grown (g := gb365) (o := .cells #[.int .i64 ((rd_T44 l2 ((rd_T49 l0 x8_1).f2)).f0), .int .i64 ((rd_T44 l2 ((rd_T49 l0 x8_1).f2)).f1)] 44 (0, 0)) (by (with_reducible repeat (first | refine blk_drewN ?_ _ | refine blk_drew ?_ | refine blk_alloc ?_ _)); refine blk_put (cs := #[.int .i64 ((rd_T44 l2 ((rd_T49 l0 x8_1).f2)).f0), .int .i64 0]) ?_ 1 _ rfl; (with_reducible repeat (first | refine blk_drewN ?_ _ | refine blk_drew ?_ | refine blk_alloc ?_ _)); refine blk_put (cs := #[.int .i64 0, .int .i64 0]) ?_ 0 _ rfl; (with_reducible repeat (first | refine blk_drewN ?_ _ | refine blk_drew ?_ | refine blk_alloc ?_ _)); exact BK365.out) hg (Kd.R_ne HO_7.out BK365.out (by decide))); have n2_ := Aside0.mk (hb); have n3_ := Aside0.mk (ho); clear BK360; clear BK365; clear HB; clear HO_7; have BK360 := n0_; have BK365 := n1_; have HB := n2_; have HO369 := n3_; clear n0_ n1_ n2_ n3_; clear ho hb hg hat))
                                  go_roundg kj12
                                  case measure => have := HK1.out; have := HJ5.out; have := HJ12.out; omega
                                  case rel => exact ⟨(y367), (wrap64 (x8_1 + 1)), (by first | rfl | (simp; done) | (simp [*]; done)), H', ⟨by have := HK1.out; have := HJ5.out; have := HJ12.out; omega⟩, ⟨by (with_reducible repeat (first | apply Kd.R_alloc | apply Kd.R_drewN | apply Kd.R_drew)); exact HO369.out⟩, ⟨by repeat (first | (with_reducible first | exact HB.out | apply below_alloc | apply pw_below_drewN | apply below_drew1 | refine below_set ?_ GE360.out | refine below_set ?_ GE365.out) | exact HB.out)⟩⟩
                                · rw [if_neg c28] at H
                                  exact absurd H (by simp)
                              · rw [if_neg c25] at H
                                exact absurd H (by simp)
                            · rw [if_neg c24] at H
                              have c24b0 : decide (((rd_T44 l2 ((rd_T49 l0 x8_1).f2)).f1) ≤ (l1.length : Int)) = false := decide_eq_false c24
                              clear c24
                              have H' := Aside0.mk H
                              clear H
                              have hcz35_0 : wc.cell? ⟨gb360, 0, none⟩ = some (.int .u8 ((rd_T49 l0 x8_1).f0)) := (blk_cell BK360.out 0).trans rfl
                              have hcz35_1 : wc.cell? ⟨gb360, 1, none⟩ = some (.slice A359_1 ((rd_T49 l0 x8_1).f1).length c359_1) := (blk_cell BK360.out 1).trans rfl
                              have hcz35_2 : wc.cell? ⟨gb360, 2, none⟩ = some (.int .i64 ((rd_T49 l0 x8_1).f2)) := (blk_cell BK360.out 2).trans rfl
                              have hfz35_0 := blk_frozen BK360.out 0
                              have hfz35_1 := blk_frozen BK360.out 1
                              have hfz35_2 := blk_frozen BK360.out 2
                              have p364 : 0 ≤ (((rd_T49 l0 x8_1).f2) : Int) := of_decide_eq_true (by first | (with_reducible assumption) | assumption)
                              have q364 : ((rd_T49 l0 x8_1).f2) < (l2.length : Int) := of_decide_eq_true (by first | (with_reducible assumption) | assumption)
                              obtain ⟨ad364, e364, hx364_0, hx364_1⟩ := at_T44 HR2.out ((rd_T49 l0 x8_1).f2) p364 q364
                              cases e364
                              replace hx364_0 := (HB.out.cell (World.block_lt_of_cell? w _ hx364_0)).trans hx364_0
                              replace hx364_1 := (HB.out.cell (World.block_lt_of_cell? w _ hx364_1)).trans hx364_1
                              replace p364 := eq_true p364
                              replace q364 := eq_true q364
                              go_wp2_with (first | ((with_reducible refine gate_dst (N := 10) rfl ?_); (try (refine gate_guard (by rfl) ?_; dsimp only)); refine box_event ?hg (N := 10) ?hd (cs := #[.int .i64 0, .int .i64 0]) (t := 44) ?hr ?_; (case hd => rfl); (case hg => rfl); (case hr => first | (go_simp; done) | (go_simp; rfl)); intro gb365 hg w36 hbox hb; have n0_ := Aside0.mk (Kd.R_below (by (with_reducible repeat (first | apply Kd.R_alloc | apply Kd.R_drewN | apply Kd.R_drew)); exact HO_7.out) hb); have n1_ := Aside0.mk (blk_below (g := gb360) (o := .cells #[.int .u8 ((rd_T49 l0 x8_1).f0), .slice A359_1 ((rd_T49 l0 x8_1).f1).length c359_1, .int .i64 ((rd_T49 l0 x8_1).f2)] 49 (0, 0)) (by (with_reducible repeat (first | refine blk_drewN ?_ _ | refine blk_drew ?_ | refine blk_alloc ?_ _)); exact BK360.out) hb); have n2_ := Aside0.mk (below_step (by repeat (first | (with_reducible first | exact HB.out | apply below_alloc | apply pw_below_drewN | apply below_drew1 | refine below_set ?_ GE360.out) | exact HB.out)) hb); have n3_ := Aside0.mk (hbox); have n4_ := Aside0.mk ((by rw [hg]; exact (below_size (by repeat (first | (with_reducible first | exact HB.out | apply below_alloc | apply pw_below_drewN | apply below_drew1 | refine below_set ?_ GE360.out) | exact HB.out))) : w.heap.size ≤ gb365)); have n5_ := Aside0.mk ((by rw [hg]; exact (below_size (by repeat (first | (with_reducible first | exact HB.out | apply below_alloc | apply pw_below_drewN | apply below_drew1 | refine below_set ?_ GE360.out) | exact HB.out))) : w.heap.size ≤ gb365)); have n6_ := Aside0.mk ((by rw [hg]; exact Nat.ne_of_lt (blk_lt (g := gb360) (o := .cells #[.int .u8 ((rd_T49 l0 x8_1).f0), .slice A359_1 ((rd_T49 l0 x8_1).f1).length c359_1, .int .i64 ((rd_T49 l0 x8_1).f2)] 49 (0, 0)) (by (with_reducible repeat (first | refine blk_drewN ?_ _ | refine blk_drew ?_ | refine blk_alloc ?_ _)); exact BK360.out)) : gb360 ≠ gb365)); have n7_ := Aside0.mk ((by rw [hg]; exact Nat.ne_of_gt (blk_lt (g := gb360) (o := .cells #[.int .u8 ((rd_T49 l0 x8_1).f0), .slice A359_1 ((rd_T49 l0 x8_1).f1).length c359_1, .int .i64 ((rd_T49 l0 x8_1).f2)] 49 (0, 0)) (by (with_reducible repeat (first | refine blk_drewN ?_ _ | refine blk_drew ?_ | refine blk_alloc ?_ _)); exact BK360.out)) : gb365 ≠ gb360)); clear HO_7; clear BK360; clear HB; have HO_7 := n0_; have BK360 := n1_; have HB := n2_; have BK365 := n3_; have GW365 := n4_; have GE365 := n5_; have NB360_365 := n6_; have NB365_360 := n7_; clear n0_ n1_ n2_ n3_ n4_ n5_ n6_ n7_; clear hb hbox hg; have hnb37 := NB365_360.out; have hnc37 := NB360_365.out; have hcz38_0 : w36.cell? ⟨gb365, 0, none⟩ = some (.int .i64 0) := (blk_cell BK365.out 0).trans rfl; have hcz38_1 : w36.cell? ⟨gb365, 1, none⟩ = some (.int .i64 0) := (blk_cell BK365.out 1).trans rfl; have hfz38_0 := blk_frozen BK365.out 0; have hfz38_1 := blk_frozen BK365.out 1))
                              go_roundg kj12
                              case measure => have := HK1.out; have := HJ5.out; have := HJ12.out; omega
                              case rel => exact ⟨(x7_5), (wrap64 (x8_1 + 1)), (by first | rfl | (simp; done) | (simp [*]; done)), H', ⟨by have := HK1.out; have := HJ5.out; have := HJ12.out; omega⟩, ⟨by (with_reducible repeat (first | apply Kd.R_alloc | apply Kd.R_drewN | apply Kd.R_drew)); exact Kd.R_mono (Kd.R_far (p := ⟨gb365, 1, none⟩) (Kd.R_far (p := ⟨gb365, 0, none⟩) (Kd.R_types HO_7.out BK365.out (by decide)) (fun _ hk => hk.2) (.int .i64 ((rd_T44 l2 ((rd_T49 l0 x8_1).f2)).f0))) (fun _ hk => hk.2) (.int .i64 ((rd_T44 l2 ((rd_T49 l0 x8_1).f2)).f1))) (fun _ hk => trivial)⟩, ⟨by repeat (first | (with_reducible first | exact HB.out | apply below_alloc | apply pw_below_drewN | apply below_drew1 | refine below_set ?_ GE360.out | refine below_set ?_ GE365.out) | exact HB.out)⟩⟩
                          · rw [if_neg c23] at H
                            have c23b0 : decide (((rd_T44 l2 ((rd_T49 l0 x8_1).f2)).f0) ≤ ((rd_T44 l2 ((rd_T49 l0 x8_1).f2)).f1)) = false := decide_eq_false c23
                            clear c23
                            have H' := Aside0.mk H
                            clear H
                            have hcz39_0 : wc.cell? ⟨gb360, 0, none⟩ = some (.int .u8 ((rd_T49 l0 x8_1).f0)) := (blk_cell BK360.out 0).trans rfl
                            have hcz39_1 : wc.cell? ⟨gb360, 1, none⟩ = some (.slice A359_1 ((rd_T49 l0 x8_1).f1).length c359_1) := (blk_cell BK360.out 1).trans rfl
                            have hcz39_2 : wc.cell? ⟨gb360, 2, none⟩ = some (.int .i64 ((rd_T49 l0 x8_1).f2)) := (blk_cell BK360.out 2).trans rfl
                            have hfz39_0 := blk_frozen BK360.out 0
                            have hfz39_1 := blk_frozen BK360.out 1
                            have hfz39_2 := blk_frozen BK360.out 2
                            have p364 : 0 ≤ (((rd_T49 l0 x8_1).f2) : Int) := of_decide_eq_true (by first | (with_reducible assumption) | assumption)
                            have q364 : ((rd_T49 l0 x8_1).f2) < (l2.length : Int) := of_decide_eq_true (by first | (with_reducible assumption) | assumption)
                            obtain ⟨ad364, e364, hx364_0, hx364_1⟩ := at_T44 HR2.out ((rd_T49 l0 x8_1).f2) p364 q364
                            cases e364
                            replace hx364_0 := (HB.out.cell (World.block_lt_of_cell? w _ hx364_0)).trans hx364_0
                            replace hx364_1 := (HB.out.cell (World.block_lt_of_cell? w _ hx364_1)).trans hx364_1
                            replace p364 := eq_true p364
                            replace q364 := eq_true q364
                            go_wp2_with (first | ((with_reducible refine gate_dst (N := 10) rfl ?_); (try (refine gate_guard (by rfl) ?_; dsimp only)); refine box_event ?hg (N := 10) ?hd (cs := #[.int .i64 0, .int .i64 0]) (t := 44) ?hr ?_; (case hd => rfl); (case hg => rfl); (case hr => first | (go_simp; done) | (go_simp; rfl)); intro gb365 hg w40 hbox hb; have n0_ := Aside0.mk (Kd.R_below (by (with_reducible repeat (first | apply Kd.R_alloc | apply Kd.R_drewN | apply Kd.R_drew)); exact HO_7.out) hb); have n1_ := Aside0.mk (blk_below (g := gb360) (o := .cells #[.int .u8 ((rd_T49 l0 x8_1).f0), .slice A359_1 ((rd_T49 l0 x8_1).f1).length c359_1, .int .i64 ((rd_T49 l0 x8_1).f2)] 49 (0, 0)) (by (with_reducible repeat (first | refine blk_drewN ?_ _ | refine blk_drew ?_ | refine blk_alloc ?_ _)); exact BK360.out) hb); have n2_ := Aside0.mk (below_step (by repeat (first | (with_reducible first | exact HB.out | apply below_alloc | apply pw_below_drewN | apply below_drew1 | refine below_set ?_ GE360.out) | exact HB.out)) hb); have n3_ := Aside0.mk (hbox); have n4_ := Aside0.mk ((by rw [hg]; exact (below_size (by repeat (first | (with_reducible first | exact HB.out | apply below_alloc | apply pw_below_drewN | apply below_drew1 | refine below_set ?_ GE360.out) | exact HB.out))) : w.heap.size ≤ gb365)); have n5_ := Aside0.mk ((by rw [hg]; exact (below_size (by repeat (first | (with_reducible first | exact HB.out | apply below_alloc | apply pw_below_drewN | apply below_drew1 | refine below_set ?_ GE360.out) | exact HB.out))) : w.heap.size ≤ gb365)); have n6_ := Aside0.mk ((by rw [hg]; exact Nat.ne_of_lt (blk_lt (g := gb360) (o := .cells #[.int .u8 ((rd_T49 l0 x8_1).f0), .slice A359_1 ((rd_T49 l0 x8_1).f1).length c359_1, .int .i64 ((rd_T49 l0 x8_1).f2)] 49 (0, 0)) (by (with_reducible repeat (first | refine blk_drewN ?_ _ | refine blk_drew ?_ | refine blk_alloc ?_ _)); exact BK360.out)) : gb360 ≠ gb365)); have n7_ := Aside0.mk ((by rw [hg]; exact Nat.ne_of_gt (blk_lt (g := gb360) (o := .cells #[.int .u8 ((rd_T49 l0 x8_1).f0), .slice A359_1 ((rd_T49 l0 x8_1).f1).length c359_1, .int .i64 ((rd_T49 l0 x8_1).f2)] 49 (0, 0)) (by (with_reducible repeat (first | refine blk_drewN ?_ _ | refine blk_drew ?_ | refine blk_alloc ?_ _)); exact BK360.out)) : gb365 ≠ gb360)); clear HO_7; clear BK360; clear HB; have HO_7 := n0_; have BK360 := n1_; have HB := n2_; have BK365 := n3_; have GW365 := n4_; have GE365 := n5_; have NB360_365 := n6_; have NB365_360 := n7_; clear n0_ n1_ n2_ n3_ n4_ n5_ n6_ n7_; clear hb hbox hg; have hnb41 := NB365_360.out; have hnc41 := NB360_365.out; have hcz42_0 : w40.cell? ⟨gb365, 0, none⟩ = some (.int .i64 0) := (blk_cell BK365.out 0).trans rfl; have hcz42_1 : w40.cell? ⟨gb365, 1, none⟩ = some (.int .i64 0) := (blk_cell BK365.out 1).trans rfl; have hfz42_0 := blk_frozen BK365.out 0; have hfz42_1 := blk_frozen BK365.out 1))
                            go_roundg kj12
                            case measure => have := HK1.out; have := HJ5.out; have := HJ12.out; omega
                            case rel => exact ⟨(x7_5), (wrap64 (x8_1 + 1)), (by first | rfl | (simp; done) | (simp [*]; done)), H', ⟨by have := HK1.out; have := HJ5.out; have := HJ12.out; omega⟩, ⟨by (with_reducible repeat (first | apply Kd.R_alloc | apply Kd.R_drewN | apply Kd.R_drew)); exact Kd.R_mono (Kd.R_far (p := ⟨gb365, 1, none⟩) (Kd.R_far (p := ⟨gb365, 0, none⟩) (Kd.R_types HO_7.out BK365.out (by decide)) (fun _ hk => hk.2) (.int .i64 ((rd_T44 l2 ((rd_T49 l0 x8_1).f2)).f0))) (fun _ hk => hk.2) (.int .i64 ((rd_T44 l2 ((rd_T49 l0 x8_1).f2)).f1))) (fun _ hk => trivial)⟩, ⟨by repeat (first | (with_reducible first | exact HB.out | apply below_alloc | apply pw_below_drewN | apply below_drew1 | refine below_set ?_ GE360.out | refine below_set ?_ GE365.out) | exact HB.out)⟩⟩
                        · rw [if_neg c22] at H
                          have c22b0 : decide (0 ≤ ((rd_T44 l2 ((rd_T49 l0 x8_1).f2)).f0)) = false := decide_eq_false c22
                          clear c22
                          have H' := Aside0.mk H
                          clear H
                          have hcz43_0 : wc.cell? ⟨gb360, 0, none⟩ = some (.int .u8 ((rd_T49 l0 x8_1).f0)) := (blk_cell BK360.out 0).trans rfl
                          have hcz43_1 : wc.cell? ⟨gb360, 1, none⟩ = some (.slice A359_1 ((rd_T49 l0 x8_1).f1).length c359_1) := (blk_cell BK360.out 1).trans rfl
                          have hcz43_2 : wc.cell? ⟨gb360, 2, none⟩ = some (.int .i64 ((rd_T49 l0 x8_1).f2)) := (blk_cell BK360.out 2).trans rfl
                          have hfz43_0 := blk_frozen BK360.out 0
                          have hfz43_1 := blk_frozen BK360.out 1
                          have hfz43_2 := blk_frozen BK360.out 2
                          have p364 : 0 ≤ (((rd_T49 l0 x8_1).f2) : Int) := of_decide_eq_true (by first | (with_reducible assumption) | assumption)
                          have q364 : ((rd_T49 l0 x8_1).f2) < (l2.length : Int) := of_decide_eq_true (by first | (with_reducible assumption) | assumption)
                          obtain ⟨ad364, e364, hx364_0, hx364_1⟩ := at_T44 HR2.out ((rd_T49 l0 x8_1).f2) p364 q364
                          cases e364
                          replace hx364_0 := (HB.out.cell (World.block_lt_of_cell? w _ hx364_0)).trans hx364_0
                          replace hx364_1 := (HB.out.cell (World.block_lt_of_cell? w _ hx364_1)).trans hx364_1
                          replace p364 := eq_true p364
                          replace q364 := eq_true q364
                          go_wp2_with (first | ((with_reducible refine gate_dst (N := 10) rfl ?_); (try (refine gate_guard (by rfl) ?_; dsimp only)); refine box_event ?hg (N := 10) ?hd (cs := #[.int .i64 0, .int .i64 0]) (t := 44) ?hr ?_; (case hd => rfl); (case hg => rfl); (case hr => first | (go_simp; done) | (go_simp; rfl)); intro gb365 hg w44 hbox hb; have n0_ := Aside0.mk (Kd.R_below (by (with_reducible repeat (first | apply Kd.R_alloc | apply Kd.R_drewN | apply Kd.R_drew)); exact HO_7.out) hb); have n1_ := Aside0.mk (blk_below (g := gb360) (o := .cells #[.int .u8 ((rd_T49 l0 x8_1).f0), .slice A359_1 ((rd_T49 l0 x8_1).f1).length c359_1, .int .i64 ((rd_T49 l0 x8_1).f2)] 49 (0, 0)) (by (with_reducible repeat (first | refine blk_drewN ?_ _ | refine blk_drew ?_ | refine blk_alloc ?_ _)); exact BK360.out) hb); have n2_ := Aside0.mk (below_step (by repeat (first | (with_reducible first | exact HB.out | apply below_alloc | apply pw_below_drewN | apply below_drew1 | refine below_set ?_ GE360.out) | exact HB.out)) hb); have n3_ := Aside0.mk (hbox); have n4_ := Aside0.mk ((by rw [hg]; exact (below_size (by repeat (first | (with_reducible first | exact HB.out | apply below_alloc | apply pw_below_drewN | apply below_drew1 | refine below_set ?_ GE360.out) | exact HB.out))) : w.heap.size ≤ gb365)); have n5_ := Aside0.mk ((by rw [hg]; exact (below_size (by repeat (first | (with_reducible first | exact HB.out | apply below_alloc | apply pw_below_drewN | apply below_drew1 | refine below_set ?_ GE360.out) | exact HB.out))) : w.heap.size ≤ gb365)); have n6_ := Aside0.mk ((by rw [hg]; exact Nat.ne_of_lt (blk_lt (g := gb360) (o := .cells #[.int .u8 ((rd_T49 l0 x8_1).f0), .slice A359_1 ((rd_T49 l0 x8_1).f1).length c359_1, .int .i64 ((rd_T49 l0 x8_1).f2)] 49 (0, 0)) (by (with_reducible repeat (first | refine blk_drewN ?_ _ | refine blk_drew ?_ | refine blk_alloc ?_ _)); exact BK360.out)) : gb360 ≠ gb365)); have n7_ := Aside0.mk ((by rw [hg]; exact Nat.ne_of_gt (blk_lt (g := gb360) (o := .cells #[.int .u8 ((rd_T49 l0 x8_1).f0), .slice A359_1 ((rd_T49 l0 x8_1).f1).length c359_1, .int .i64 ((rd_T49 l0 x8_1).f2)] 49 (0, 0)) (by (with_reducible repeat (first | refine blk_drewN ?_ _ | refine blk_drew ?_ | refine blk_alloc ?_ _)); exact BK360.out)) : gb365 ≠ gb360)); clear HO_7; clear BK360; clear HB; have HO_7 := n0_; have BK360 := n1_; have HB := n2_; have BK365 := n3_; have GW365 := n4_; have GE365 := n5_; have NB360_365 := n6_; have NB365_360 := n7_; clear n0_ n1_ n2_ n3_ n4_ n5_ n6_ n7_; clear hb hbox hg; have hnb45 := NB365_360.out; have hnc45 := NB360_365.out; have hcz46_0 : w44.cell? ⟨gb365, 0, none⟩ = some (.int .i64 0) := (blk_cell BK365.out 0).trans rfl; have hcz46_1 : w44.cell? ⟨gb365, 1, none⟩ = some (.int .i64 0) := (blk_cell BK365.out 1).trans rfl; have hfz46_0 := blk_frozen BK365.out 0; have hfz46_1 := blk_frozen BK365.out 1))
                          go_roundg kj12
                          case measure => have := HK1.out; have := HJ5.out; have := HJ12.out; omega
                          case rel => exact ⟨(x7_5), (wrap64 (x8_1 + 1)), (by first | rfl | (simp; done) | (simp [*]; done)), H', ⟨by have := HK1.out; have := HJ5.out; have := HJ12.out; omega⟩, ⟨by (with_reducible repeat (first | apply Kd.R_alloc | apply Kd.R_drewN | apply Kd.R_drew)); exact Kd.R_mono (Kd.R_far (p := ⟨gb365, 1, none⟩) (Kd.R_far (p := ⟨gb365, 0, none⟩) (Kd.R_types HO_7.out BK365.out (by decide)) (fun _ hk => hk.2) (.int .i64 ((rd_T44 l2 ((rd_T49 l0 x8_1).f2)).f0))) (fun _ hk => hk.2) (.int .i64 ((rd_T44 l2 ((rd_T49 l0 x8_1).f2)).f1))) (fun _ hk => trivial)⟩, ⟨by repeat (first | (with_reducible first | exact HB.out | apply below_alloc | apply pw_below_drewN | apply below_drew1 | refine below_set ?_ GE360.out | refine below_set ?_ GE365.out) | exact HB.out)⟩⟩
                      · rw [if_neg c21] at H
                        exact absurd H (by simp)
                    · rw [if_neg c20] at H
                      exact absurd H (by simp)
                  · replace c19 := Bool.eq_false_iff.mpr c19
                    subst c19
                    have H1 : (redactorref14_Expand.l0 kj12 l0 l1 l2 x7_5 (wrap64 (x8_1 + 1))) = some r := by rw [if_neg (show ¬ (false = true) by decide)] at H; exact H
                    clear H
                    have H := H1
                    clear H1
                    have H' := Aside0.mk H
                    clear H
                    go_wp2
                    go_roundg kj12
                    case measure => have := HK1.out; have := HJ5.out; have := HJ12.out; omega
                    case rel => exact ⟨(x7_5), (wrap64 (x8_1 + 1)), (by first | rfl | (simp; done) | (simp [*]; done)), H', ⟨by have := HK1.out; have := HJ5.out; have := HJ12.out; omega⟩, ⟨by (with_reducible repeat (first | apply Kd.R_alloc | apply Kd.R_drewN | apply Kd.R_drew)); exact HO_7.out⟩, ⟨by repeat (first | (with_reducible first | exact HB.out | apply below_alloc | apply pw_below_drewN | apply below_drew1 | refine below_set ?_ GE360.out) | exact HB.out)⟩⟩
        · rw [if_neg c5] at H
          exact absurd H (by simp)
      · rw [if_neg c4] at H
        have c4b0 : decide (x8_1 < (l0.length : Int)) = false := decide_eq_false c4
        clear c4
        obtain rfl := Option.some.inj H
        go_wp2
        go_ret
        exact ⟨_, by first | rfl | (simp [errW_none, errW_some] <;> rfl) | (simp [*, errW_none, errW_some] <;> rfl), by (with_reducible repeat (first | apply Kd.R_alloc | apply Kd.R_drewN | apply Kd.R_drew)); exact HO_7.out, by repeat (first | (with_reducible first | exact HB.out | apply below_alloc | apply pw_below_drewN | apply below_drew1) | exact HB.out)⟩

end Go.Proofs.Ytfgccmgfkfhfcaa.PAll
