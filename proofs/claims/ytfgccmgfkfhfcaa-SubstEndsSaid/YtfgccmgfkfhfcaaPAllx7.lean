/- Written for this seat by a program of this session (wip/tools/pp.py): Lean functions with the same answers as the Go functions, and the proofs that they are. Lean checks it. -/
import Derived.Test.YtfgccmgfkfhfcaaPAllx0
import Derived.Test.YtfgccmgfkfhfcaaPAllx3
import Derived.Test.YtfgccmgfkfhfcaaPAllx6
import Derived.Test.YtfgccmgfkfhfcaaExtParse
import Derived.Test.YtfgccmgfkfhfcaaExtSpell
import Derived.Test.YtfgccmgfkfhfcaaExtMap
namespace Go.Proofs.Ytfgccmgfkfhfcaa.PAll
open Go.RowKit Go.Proofs.YtfgccmgfkfhfcaaW.PrintWords Go.Proofs.YtfgccmgfkfhfcaaW.PrintLast Go.Proofs.YtfgccmgfkfhfcaaW.PrintMore
attribute [local go_sem] max2_int min2_int max_two min_two max_three min_three max_four min_four   -- for this text's walks alone
set_option linter.unusedVariables false
set_option linter.unusedSimpArgs false

/-! ### redactorlaw14_SubstEnds: function 6 -/
mutual
def redactorlaw14_SubstEnds.j0 : Nat → Int → Int → Bool → Option (Bool)
  | 0, _, _, _ => none
  | k + 1, x0, x1, x30 => if x30 = true then ((redactorlaw14_known.f k).bind fun t279 => (some t279)) else ((subst_Parse.f (([120, 92, x0, 121, x0, 122] : List Int)) 0 x0 9).bind fun bt283 => ((subst_Parse.f (([120, 92, x0] : List Int)) 0 x0 9).bind fun bt292 => (if x0 = 122 then (redactorlaw14_SubstEnds.j1 k x0 bt283.1 bt283.2.1 bt283.2.2.1 bt292.2.2.1 bt292.2.2.2 true) else (redactorlaw14_SubstEnds.j1 k x0 bt283.1 bt283.2.1 bt283.2.2.1 bt292.2.2.1 bt292.2.2.2 (decide (x1 > 250))))))
def redactorlaw14_SubstEnds.j1 : Nat → Int → List (S49) → Int → Int → Int → Int → Bool → Option (Bool)
  | 0, _, _, _, _, _, _, _ => none
  | k + 1, x0, x5, x6, x7, x11, x12, x56 => if x56 = true then (if x7 = 0 then (if x6 = 5 then (some (x11 == 30)) else (some false)) else (some false)) else ((redactorlaw14_known.f k).bind fun t298 => (if t298 = true then (if x7 = 0 then (if x6 = 5 then (if x11 = 30 then (if x12 = 3 then ((subst_Expand.f k x5 ([] : List Int) ([] : List (S44))).bind fun t299 => ((redactorref01_Same.f k t299 (([120, x0, 121] : List Int))).bind fun t305 => (some t305))) else (some false)) else (some false)) else (some false)) else (some false)) else (some false)))
end
def redactorlaw14_SubstEnds.f (k : Nat) (a0 : Int) (a1 : Int) : Option (Bool) := if a0 = 92 then (redactorlaw14_SubstEnds.j0 k a0 a1 true) else (if a0 = 10 then (redactorlaw14_SubstEnds.j0 k a0 a1 true) else (if a0 = 38 then (redactorlaw14_SubstEnds.j0 k a0 a1 true) else (if a0 = 120 then (redactorlaw14_SubstEnds.j0 k a0 a1 true) else (redactorlaw14_SubstEnds.j0 k a0 a1 (a0 == 121)))))
theorem redactorlaw14_SubstEnds.mono_l : ∀ k, (∀ y0 y1 y2, LeO (redactorlaw14_SubstEnds.j0 k y0 y1 y2) (redactorlaw14_SubstEnds.j0 (k + 1) y0 y1 y2)) ∧ (∀ y0 y1 y2 y3 y4 y5 y6, LeO (redactorlaw14_SubstEnds.j1 k y0 y1 y2 y3 y4 y5 y6) (redactorlaw14_SubstEnds.j1 (k + 1) y0 y1 y2 y3 y4 y5 y6))
  | 0 => ⟨fun _ _ _ r h => by simp [redactorlaw14_SubstEnds.j0] at h, fun _ _ _ _ _ _ _ r h => by simp [redactorlaw14_SubstEnds.j1] at h⟩
  | k + 1 => by
    obtain ⟨ih0, ih1⟩ := redactorlaw14_SubstEnds.mono_l k
    refine ⟨?_, ?_⟩
    · intro y0 y1 y2
      unfold redactorlaw14_SubstEnds.j0
      repeat' first
      | (with_reducible exact ih0 _ _ _)
      | (with_reducible exact ih1 _ _ _ _ _ _ _)
      | (with_reducible exact redactorlaw14_known.mono _)
      | (with_reducible exact redactorref01_Same.mono _ _ _)
      | (with_reducible exact subst_Expand.mono _ _ _ _)
      | (with_reducible exact LeO.refl _)
      | (with_reducible exact LeO.none _)
      | (with_reducible refine LeO.ite ?_ ?_)
      | (with_reducible refine LeO.bind ?_ (fun _ => ?_))
      | exact ih0 _ _ _
      | exact ih1 _ _ _ _ _ _ _
      | exact redactorlaw14_known.mono _
      | exact redactorref01_Same.mono _ _ _
      | exact subst_Expand.mono _ _ _ _
      | exact LeO.none _
      | refine LeO.ite ?_ ?_
      | refine LeO.bind ?_ (fun _ => ?_)
    · intro y0 y1 y2 y3 y4 y5 y6
      unfold redactorlaw14_SubstEnds.j1
      repeat' first
      | (with_reducible exact ih0 _ _ _)
      | (with_reducible exact ih1 _ _ _ _ _ _ _)
      | (with_reducible exact redactorlaw14_known.mono _)
      | (with_reducible exact redactorref01_Same.mono _ _ _)
      | (with_reducible exact subst_Expand.mono _ _ _ _)
      | (with_reducible exact LeO.refl _)
      | (with_reducible exact LeO.none _)
      | (with_reducible refine LeO.ite ?_ ?_)
      | (with_reducible refine LeO.bind ?_ (fun _ => ?_))
      | exact ih0 _ _ _
      | exact ih1 _ _ _ _ _ _ _
      | exact redactorlaw14_known.mono _
      | exact redactorref01_Same.mono _ _ _
      | exact subst_Expand.mono _ _ _ _
      | exact LeO.none _
      | refine LeO.ite ?_ ?_
      | refine LeO.bind ?_ (fun _ => ?_)
theorem redactorlaw14_SubstEnds.mono : ∀ a0 a1 k, LeO (redactorlaw14_SubstEnds.f k a0 a1) (redactorlaw14_SubstEnds.f (k + 1) a0 a1) := by
  intro a0 a1 k
  obtain ⟨ih0, ih1⟩ := redactorlaw14_SubstEnds.mono_l k
  unfold redactorlaw14_SubstEnds.f
  repeat' first
      | (with_reducible exact ih0 _ _ _)
      | (with_reducible exact ih1 _ _ _ _ _ _ _)
      | (with_reducible exact redactorlaw14_known.mono _)
      | (with_reducible exact redactorref01_Same.mono _ _ _)
      | (with_reducible exact subst_Expand.mono _ _ _ _)
      | (with_reducible exact LeO.refl _)
      | (with_reducible exact LeO.none _)
      | (with_reducible refine LeO.ite ?_ ?_)
      | (with_reducible refine LeO.bind ?_ (fun _ => ?_))
      | exact ih0 _ _ _
      | exact ih1 _ _ _ _ _ _ _
      | exact redactorlaw14_known.mono _
      | exact redactorref01_Same.mono _ _ _
      | exact subst_Expand.mono _ _ _ _
      | exact LeO.none _
      | refine LeO.ite ?_ ?_
      | refine LeO.bind ?_ (fun _ => ?_)
set_option maxHeartbeats 8000000 in
set_option maxRecDepth 100000 in
theorem redactorlaw14_SubstEnds.calls (k : Nat) (a0 : Int) (a1 : Int) (r : Bool) (w : World) (h : redactorlaw14_SubstEnds.f k a0 a1 = some r) :
    Calls Try.prog 6 #[.int .i32 a0, .int .u8 a1] w fun e w' => e = .returned (.bool r) ∧ Below w.heap.size w w' := by
  have HB := Aside0.mk (Below.refl w.heap.size w)
  have H : (if a0 = 92 then (redactorlaw14_SubstEnds.j0 k a0 a1 true) else (if a0 = 10 then (redactorlaw14_SubstEnds.j0 k a0 a1 true) else (if a0 = 38 then (redactorlaw14_SubstEnds.j0 k a0 a1 true) else (if a0 = 120 then (redactorlaw14_SubstEnds.j0 k a0 a1 true) else (redactorlaw14_SubstEnds.j0 k a0 a1 (a0 == 121)))))) = some r := h
  clear h
  have HC3 := Aside0.mk H
  clear H
  go_enter Try.func6, Try.ntmps6
  go_upto_region 1 with (fail)
  go_cut [30] (fun v30 wc => ∃ (kq : Nat) (x30_2 : Bool), v30 = .bool x30_2 ∧ Aside0 (redactorlaw14_SubstEnds.j0 kq a0 a1 x30_2 = some r) ∧ Aside0 (kq ≤ k) ∧ Aside0 (Below w.heap.size w wc))
  case first =>
    have H := HC3.out
    clear HC3
    by_cases c4 : a0 = 92
    · rw [if_pos c4] at H
      have c4b0 : (a0 == 92) = true := beq_iff_eq.mpr c4
      have c4b1 : (a0 != 92) = false := bne_eq_false_iff_eq.mpr c4
      clear c4
      (first | rw [c4b0] | (simp only [i64_w, i32_w]; rw [c4b0]) | skip)
      have H' := Aside0.mk H
      clear H
      go_wp2
      go_meet
      case rel => exact ⟨_, (true), (by first | rfl | (simp; done) | (simp [*]; done)), H', ⟨by first | omega | exact Nat.le_refl _⟩, ⟨by repeat (first | (with_reducible first | exact HB.out | apply below_alloc | apply pw_below_drewN | apply below_drew1) | exact HB.out)⟩⟩
    · rw [if_neg c4] at H
      have c4b0 : (a0 == 92) = false := beq_eq_false_iff_ne.mpr c4
      have c4b1 : (a0 != 92) = true := bne_iff_ne.mpr c4
      (first | rw [c4b0] | (simp only [i64_w, i32_w]; rw [c4b0]) | skip)
      by_cases c5 : a0 = 10
      · rw [if_pos c5] at H
        have c5b0 : (a0 == 10) = true := beq_iff_eq.mpr c5
        have c5b1 : (a0 != 10) = false := bne_eq_false_iff_eq.mpr c5
        clear c5
        have H' := Aside0.mk H
        clear H
        go_wp2
        go_meet
        case rel => exact ⟨_, (true), (by first | rfl | (simp; done) | (simp [*]; done)), H', ⟨by first | omega | exact Nat.le_refl _⟩, ⟨by repeat (first | (with_reducible first | exact HB.out | apply below_alloc | apply pw_below_drewN | apply below_drew1) | exact HB.out)⟩⟩
      · rw [if_neg c5] at H
        have c5b0 : (a0 == 10) = false := beq_eq_false_iff_ne.mpr c5
        have c5b1 : (a0 != 10) = true := bne_iff_ne.mpr c5
        by_cases c6 : a0 = 38
        · rw [if_pos c6] at H
          have c6b0 : (a0 == 38) = true := beq_iff_eq.mpr c6
          have c6b1 : (a0 != 38) = false := bne_eq_false_iff_eq.mpr c6
          clear c6
          have H' := Aside0.mk H
          clear H
          go_wp2
          go_meet
          case rel => exact ⟨_, (true), (by first | rfl | (simp; done) | (simp [*]; done)), H', ⟨by first | omega | exact Nat.le_refl _⟩, ⟨by repeat (first | (with_reducible first | exact HB.out | apply below_alloc | apply pw_below_drewN | apply below_drew1) | exact HB.out)⟩⟩
        · rw [if_neg c6] at H
          have c6b0 : (a0 == 38) = false := beq_eq_false_iff_ne.mpr c6
          have c6b1 : (a0 != 38) = true := bne_iff_ne.mpr c6
          by_cases c7 : a0 = 120
          · rw [if_pos c7] at H
            have c7b0 : (a0 == 120) = true := beq_iff_eq.mpr c7
            have c7b1 : (a0 != 120) = false := bne_eq_false_iff_eq.mpr c7
            clear c7
            have H' := Aside0.mk H
            clear H
            go_wp2
            go_meet
            case rel => exact ⟨_, (true), (by first | rfl | (simp; done) | (simp [*]; done)), H', ⟨by first | omega | exact Nat.le_refl _⟩, ⟨by repeat (first | (with_reducible first | exact HB.out | apply below_alloc | apply pw_below_drewN | apply below_drew1) | exact HB.out)⟩⟩
          · rw [if_neg c7] at H
            have c7b0 : (a0 == 120) = false := beq_eq_false_iff_ne.mpr c7
            have c7b1 : (a0 != 120) = true := bne_iff_ne.mpr c7
            have H' := Aside0.mk H
            clear H
            go_wp2
            go_meet
            case rel => exact ⟨_, ((a0 == 121)), (by first | rfl | (simp; done) | (simp [*]; done)), H', ⟨by first | omega | exact Nat.le_refl _⟩, ⟨by repeat (first | (with_reducible first | exact HB.out | apply below_alloc | apply pw_below_drewN | apply below_drew1) | exact HB.out)⟩⟩
  case rest =>
    clear HC3
    try clear p2
    try clear c4
    try clear c4b0
    try clear c4b1
    try clear c5
    try clear c5b0
    try clear c5b1
    try clear c6
    try clear c6b0
    try clear c6b1
    try clear c7
    try clear c7b0
    try clear c7b1
    obtain ⟨kq, x30_2, rfl, HA, HJ2, HB⟩ := hcut
    cases kq with
    | zero => exact absurd HA.out (by simp [redactorlaw14_SubstEnds.j0])
    | succ kj2 =>
      have H := HA.out
      clear HA
      simp only [redactorlaw14_SubstEnds.j0] at H
      by_cases c8 : x30_2 = true
      · subst c8
        have H1 : ((redactorlaw14_known.f kj2).bind fun t279 => (some t279)) = some r := by rw [if_pos rfl] at H; exact H
        clear H
        have H := H1
        clear H1
        replace H := Option.bind_eq_some_iff.mp H
        obtain ⟨t279, A90, H⟩ := H
        replace H : (some t279) = some r := H
        have A9 := Aside0.mk A90
        clear A90
        obtain rfl := Option.some.inj H
        go_wp2_with (first | ((with_reducible refine gate_callee (f := 11) rfl ?_); refine goesL_ (some 31) rfl rfl Try.func11 (by kernel_rfl) rfl #[] rfl (by (try simp only [List.map_toArray, List.map_cons, List.map_nil]); first | done | rfl | (simp only [List.length_drop, List.length_take]; rfl)) ?_; (with_reducible refine (redactorlaw14_known.calls kj2  t279 _ A9.out).mono ?_); rintro e w10 ⟨rfl, hb⟩; refine ⟨_, rfl, ?_⟩; have n0_ := Aside0.mk (below_step (by repeat (first | (with_reducible first | exact HB.out | apply below_alloc | apply pw_below_drewN | apply below_drew1) | exact HB.out)) hb); clear HB; have HB := n0_; clear n0_; (try clear hb); (try clear hb2); (try clear hk); (try clear hi)))
        go_ret
        exact ⟨by first | rfl | (simp [errW_none, errW_some] <;> rfl) | (simp [*, errW_none, errW_some] <;> rfl), by repeat (first | (with_reducible first | exact HB.out | apply below_alloc | apply pw_below_drewN | apply below_drew1) | exact HB.out)⟩
      · replace c8 := Bool.eq_false_iff.mpr c8
        subst c8
        have H1 : ((subst_Parse.f (([120, 92, a0, 121, a0, 122] : List Int)) 0 a0 9).bind fun bt283 => ((subst_Parse.f (([120, 92, a0] : List Int)) 0 a0 9).bind fun bt292 => (if a0 = 122 then (redactorlaw14_SubstEnds.j1 kj2 a0 bt283.1 bt283.2.1 bt283.2.2.1 bt292.2.2.1 bt292.2.2.2 true) else (redactorlaw14_SubstEnds.j1 kj2 a0 bt283.1 bt283.2.1 bt283.2.2.1 bt292.2.2.1 bt292.2.2.2 (decide (a1 > 250)))))) = some r := by rw [if_neg (show ¬ (false = true) by decide)] at H; exact H
        clear H
        have H := H1
        clear H1
        obtain ⟨y280, hy280⟩ : ∃ y_ : List Int, y_ = (([120, 92, a0, 121, a0, 122] : List Int)) := ⟨_, rfl⟩
        replace H : ((subst_Parse.f y280 0 a0 9).bind fun bt283 => ((subst_Parse.f (([120, 92, a0] : List Int)) 0 a0 9).bind fun bt292 => (if a0 = 122 then (redactorlaw14_SubstEnds.j1 kj2 a0 bt283.1 bt283.2.1 bt283.2.2.1 bt292.2.2.1 bt292.2.2.2 true) else (redactorlaw14_SubstEnds.j1 kj2 a0 bt283.1 bt283.2.1 bt283.2.2.1 bt292.2.2.1 bt292.2.2.2 (decide (a1 > 250)))))) = some r := by first | (rw [hy280]; with_reducible exact H) | (have H2_ := (Option.bind_some _ _).symm.trans H; rw [hy280]; with_reducible exact H2_) | (have H2_ := (Option.bind_some _ _).symm.trans H; with_reducible exact H2_) | with_reducible exact H | (rw [hy280]; exact H) | exact H
        have Ny280 := Aside0.mk hy280
        clear hy280
        replace H := Option.bind_eq_some_iff.mp H
        obtain ⟨⟨t283, t284, t285, t286⟩, A110, H⟩ := H
        replace H : ((subst_Parse.f (([120, 92, a0] : List Int)) 0 a0 9).bind fun bt292 => (if a0 = 122 then (redactorlaw14_SubstEnds.j1 kj2 a0 t283 t284 t285 bt292.2.2.1 bt292.2.2.2 true) else (redactorlaw14_SubstEnds.j1 kj2 a0 t283 t284 t285 bt292.2.2.1 bt292.2.2.2 (decide (a1 > 250))))) = some r := H
        have A11 := Aside0.mk A110
        clear A110
        obtain ⟨y289, hy289⟩ : ∃ y_ : List Int, y_ = (([120, 92, a0] : List Int)) := ⟨_, rfl⟩
        replace H : ((subst_Parse.f y289 0 a0 9).bind fun bt292 => (if a0 = 122 then (redactorlaw14_SubstEnds.j1 kj2 a0 t283 t284 t285 bt292.2.2.1 bt292.2.2.2 true) else (redactorlaw14_SubstEnds.j1 kj2 a0 t283 t284 t285 bt292.2.2.1 bt292.2.2.2 (decide (a1 > 250))))) = some r := by first | (rw [hy289]; with_reducible exact H) | (have H2_ := (Option.bind_some _ _).symm.trans H; rw [hy289]; with_reducible exact H2_) | (have H2_ := (Option.bind_some _ _).symm.trans H; with_reducible exact H2_) | with_reducible exact H | (rw [hy289]; exact H) | exact H
        have Ny289 := Aside0.mk hy289
        clear hy289
        replace H := Option.bind_eq_some_iff.mp H
        obtain ⟨⟨t292, t293, t294, t295⟩, A120, H⟩ := H
        replace H : (if a0 = 122 then (redactorlaw14_SubstEnds.j1 kj2 a0 t283 t284 t285 t294 t295 true) else (redactorlaw14_SubstEnds.j1 kj2 a0 t283 t284 t285 t294 t295 (decide (a1 > 250)))) = some r := H
        have A12 := Aside0.mk A120
        clear A120
        have HC13 := Aside0.mk H
        clear H
        go_upto_region 5 with (first | ((with_reducible refine gate_dst (N := 35) rfl ?_); (try (refine gate_guard (by rfl) ?_; dsimp only)); refine Kd.R_lit (Kd.int .i32) _ 24 ?hg (N := 35) ?hd (xs := ([120, 92, a0, 121, a0, 122] : List Int)) (inner := [.int .i32 120, .int .i32 92, .int .i32 a0, .int .i32 121, .int .i32 a0, .int .i32 122]) (ok := fun _ => True) (okp := fun _ => True) ?hr ?hp (fun _ hk => hk) trivial (Below.refl _ _) (Nat.le_refl _) (by simp) ?_; (case hd => rfl); (case hg => rfl); (case hr => first | (go_simp; done) | (go_simp; rfl)); (case hp => exact (Reps.one (show Kd.M (Kd.int .i32) _ _ _ 120 [.int .i32 120] from rfl) (Reps.one (show Kd.M (Kd.int .i32) _ _ _ 92 [.int .i32 92] from rfl) (Reps.one (show Kd.M (Kd.int .i32) _ _ _ a0 [.int .i32 a0] from rfl) (Reps.one (show Kd.M (Kd.int .i32) _ _ _ 121 [.int .i32 121] from rfl) (Reps.one (show Kd.M (Kd.int .i32) _ _ _ a0 [.int .i32 a0] from rfl) (Reps.one (show Kd.M (Kd.int .i32) _ _ _ 122 [.int .i32 122] from rfl) (Reps.none _ _)))))))); intro v281 w14 ho15 hb hg_ hnew_; clear hg_ hnew_; (first | rw [← Ny280.out] at ho15 | (simp only [Int.reduceToNat] at ho15; rw [← Ny280.out] at ho15)); have n0_ := Aside0.mk (Kd.R_lower ho15 (below_size (by repeat (first | (with_reducible first | exact HB.out | apply below_alloc | apply pw_below_drewN | apply below_drew1) | exact HB.out)))); have n1_ := Aside0.mk (below_step (by repeat (first | (with_reducible first | exact HB.out | apply below_alloc | apply pw_below_drewN | apply below_drew1) | exact HB.out)) hb); clear HB; have HO282 := n0_; have HB := n1_; clear n0_ n1_; clear hb ho15; obtain ⟨Ao16, co16, eo16⟩ := Kd.R_slice HO282.out; subst eo16) | ((with_reducible refine gate_callee (f := 14) rfl ?_); refine goesL_ (some 37) rfl rfl Try.func14 (by kernel_rfl) rfl #[.slice Ao16 y280.length co16, .int .i64 0, .int .i32 a0, .int .i64 9] rfl (by (try simp only [List.map_toArray, List.map_cons, List.map_nil]); first | done | rfl | (simp only [List.length_drop, List.length_take]; rfl)) ?_; (with_reducible refine (subst_Parse.calls _ _ y280 0 a0 9 t283 t284 t285 t286 _ ?side1 ?side2 A11.out).mono ?_); (case side1 => repeat (first | exact (Kd.R_reads' HO282.out).2.2 | (with_reducible refine Kd.C_alloc ?_ _) | (with_reducible refine Kd.C_drewN ?_ _) | (with_reducible refine Kd.C_drew ?_))); (case side2 => exact (Kd.R_reads' HO282.out).2.1); rintro e w17 ⟨v287, rfl, ho0, hb⟩; refine ⟨_, rfl, ?_⟩; have n0_ := Aside0.mk (Kd.R_below (by (with_reducible repeat (first | apply Kd.R_alloc | apply Kd.R_drewN | apply Kd.R_drew)); exact HO282.out) hb); have n1_ := Aside0.mk (Kd.N_lower (Kd.N_mono (ok' := fun k_ => some k_ ≠ (.slice Ao16 y280.length co16 : Value).ownBlock) (Kd.S_N (Kd.S_bound ho0)) (fun k_ hk_ => (Kd.fresh' (Kd.R_lt (by (with_reducible repeat (first | apply Kd.R_alloc | apply Kd.R_drewN | apply Kd.R_drew)); exact HO282.out)) k_ hk_.2.1))) (below_size (by repeat (first | (with_reducible first | exact HB.out | apply below_alloc | apply pw_below_drewN | apply below_drew1) | exact HB.out)))); have n2_ := Aside0.mk (below_step (by repeat (first | (with_reducible first | exact HB.out | apply below_alloc | apply pw_below_drewN | apply below_drew1) | exact HB.out)) hb); clear HO282; clear HB; have HO282 := n0_; have HO288 := n1_; have HB := n2_; clear n0_ n1_ n2_; (try clear hb); (try clear hb2); (try clear hk); (try clear hi); (try clear ho0)) | ((with_reducible refine gate_dst (N := 44) rfl ?_); (try (refine gate_guard (by rfl) ?_; dsimp only)); refine Kd.R_lit (Kd.int .i32) _ 24 ?hg (N := 44) ?hd (xs := ([120, 92, a0] : List Int)) (inner := [.int .i32 120, .int .i32 92, .int .i32 a0]) (ok := fun _ => True) (okp := fun _ => True) ?hr ?hp (fun _ hk => hk) trivial (Below.refl _ _) (Nat.le_refl _) (by simp) ?_; (case hd => rfl); (case hg => rfl); (case hr => first | (go_simp; done) | (go_simp; rfl)); (case hp => exact (Reps.one (show Kd.M (Kd.int .i32) _ _ _ 120 [.int .i32 120] from rfl) (Reps.one (show Kd.M (Kd.int .i32) _ _ _ 92 [.int .i32 92] from rfl) (Reps.one (show Kd.M (Kd.int .i32) _ _ _ a0 [.int .i32 a0] from rfl) (Reps.none _ _))))); intro v290 w18 ho19 hb hg_ hnew_; clear hg_ hnew_; (first | rw [← Ny289.out] at ho19 | (simp only [Int.reduceToNat] at ho19; rw [← Ny289.out] at ho19)); have n0_ := Aside0.mk (Kd.R_elder' (by (with_reducible repeat (first | apply Kd.R_alloc | apply Kd.R_drewN | apply Kd.R_drew)); exact HO282.out) (Kd.R_base ho19) hb); have n1_ := Aside0.mk (Kd.N_elder' (by (with_reducible repeat (first | apply Kd.N_alloc | apply Kd.N_drewN | apply Kd.N_drew)); exact HO288.out) (Kd.R_base ho19) hb); have n2_ := Aside0.mk (Kd.R_lower (Kd.R_new' ho19 (Kd.R_lt (by (with_reducible repeat (first | apply Kd.R_alloc | apply Kd.R_drewN | apply Kd.R_drew)); exact HO282.out))) (below_size (by repeat (first | (with_reducible first | exact HB.out | apply below_alloc | apply pw_below_drewN | apply below_drew1) | exact HB.out)))); have n3_ := Aside0.mk (below_step (by repeat (first | (with_reducible first | exact HB.out | apply below_alloc | apply pw_below_drewN | apply below_drew1) | exact HB.out)) hb); clear HO282; clear HO288; clear HB; have HO282 := n0_; have HO288 := n1_; have HO291 := n2_; have HB := n3_; clear n0_ n1_ n2_ n3_; clear hb ho19; obtain ⟨Ao20, co20, eo20⟩ := Kd.R_slice HO291.out; subst eo20) | ((with_reducible refine gate_callee (f := 14) rfl ?_); refine goesL_ (some 46) rfl rfl Try.func14 (by kernel_rfl) rfl #[.slice Ao20 y289.length co20, .int .i64 0, .int .i32 a0, .int .i64 9] rfl (by (try simp only [List.map_toArray, List.map_cons, List.map_nil]); first | done | rfl | (simp only [List.length_drop, List.length_take]; rfl)) ?_; (with_reducible refine (subst_Parse.calls _ _ y289 0 a0 9 t292 t293 t294 t295 _ ?side1 ?side2 A12.out).mono ?_); (case side1 => repeat (first | exact (Kd.R_reads' HO291.out).2.2 | (with_reducible refine Kd.C_alloc ?_ _) | (with_reducible refine Kd.C_drewN ?_ _) | (with_reducible refine Kd.C_drew ?_))); (case side2 => exact (Kd.R_reads' HO291.out).2.1); rintro e w21 ⟨v296, rfl, ho0, hb⟩; refine ⟨_, rfl, ?_⟩; have n0_ := Aside0.mk (Kd.R_below (by (with_reducible repeat (first | apply Kd.R_alloc | apply Kd.R_drewN | apply Kd.R_drew)); exact HO282.out) hb); have n1_ := Aside0.mk (Kd.N_elder' (by (with_reducible repeat (first | apply Kd.N_alloc | apply Kd.N_drewN | apply Kd.N_drew)); exact HO288.out) (by first | exact Kd.N_base ho0 | exact Kd.N_base (Kd.S_N ho0)) hb); have n2_ := Aside0.mk (Kd.R_below (by (with_reducible repeat (first | apply Kd.R_alloc | apply Kd.R_drewN | apply Kd.R_drew)); exact HO291.out) hb); have n3_ := Aside0.mk (Kd.N_lower (Kd.N_mono (ok' := fun k_ => some k_ ≠ (.slice Ao16 y280.length co16 : Value).ownBlock ∧ some k_ ≠ (v287 : Value).ownBlock ∧ some k_ ≠ (.slice Ao20 y289.length co20 : Value).ownBlock) (Kd.S_N (Kd.S_bound ho0)) (fun k_ hk_ => ⟨(Kd.fresh' (Kd.R_lt (by (with_reducible repeat (first | apply Kd.R_alloc | apply Kd.R_drewN | apply Kd.R_drew)); exact HO282.out)) k_ hk_.2.1), (Kd.fresh' (Kd.N_lt (by (with_reducible repeat (first | apply Kd.N_alloc | apply Kd.N_drewN | apply Kd.N_drew)); exact HO288.out)) k_ hk_.2.1), (Kd.fresh' (Kd.R_lt (by (with_reducible repeat (first | apply Kd.R_alloc | apply Kd.R_drewN | apply Kd.R_drew)); exact HO291.out)) k_ hk_.2.1)⟩)) (below_size (by repeat (first | (with_reducible first | exact HB.out | apply below_alloc | apply pw_below_drewN | apply below_drew1) | exact HB.out)))); have n4_ := Aside0.mk (below_step (by repeat (first | (with_reducible first | exact HB.out | apply below_alloc | apply pw_below_drewN | apply below_drew1) | exact HB.out)) hb); clear HO282; clear HO288; clear HO291; clear HB; have HO282 := n0_; have HO288 := n1_; have HO291 := n2_; have HO297 := n3_; have HB := n4_; clear n0_ n1_ n2_ n3_ n4_; (try clear hb); (try clear hb2); (try clear hk); (try clear hi); (try clear ho0)))
        (try simp only [Act.put, List.setIfInBounds_toArray, List.set_cons_zero, List.set_cons_succ])
        go_cut [56] (fun v56 wc => ∃ (kq : Nat) (x56_12 : Bool), v56 = .bool x56_12 ∧ Aside0 (redactorlaw14_SubstEnds.j1 kq a0 t283 t284 t285 t294 t295 x56_12 = some r) ∧ Aside0 (kq ≤ kj2) ∧ Aside0 (Kd.N k49 49 wc w.heap.size (fun _ => True) v287 t283) ∧ Aside0 (Below w.heap.size w wc))
        case first =>
          have H := HC13.out
          clear HC13
          by_cases c22 : a0 = 122
          · rw [if_pos c22] at H
            have c22b0 : (a0 == 122) = true := beq_iff_eq.mpr c22
            have c22b1 : (a0 != 122) = false := bne_eq_false_iff_eq.mpr c22
            clear c22
            (first | rw [c22b0] | (simp only [i64_w, i32_w]; rw [c22b0]) | skip)
            have H' := Aside0.mk H
            clear H
            go_wp2
            go_meet
            case rel => exact ⟨_, (true), (by first | rfl | (simp; done) | (simp [*]; done)), H', ⟨by have := HJ2.out; first | omega | exact Nat.le_refl _⟩, ⟨by (with_reducible repeat (first | apply Kd.N_alloc | apply Kd.N_drewN | apply Kd.N_drew)); exact Kd.N_mono HO288.out (fun _ hk => trivial)⟩, ⟨by repeat (first | (with_reducible first | exact HB.out | apply below_alloc | apply pw_below_drewN | apply below_drew1) | exact HB.out)⟩⟩
          · rw [if_neg c22] at H
            have c22b0 : (a0 == 122) = false := beq_eq_false_iff_ne.mpr c22
            have c22b1 : (a0 != 122) = true := bne_iff_ne.mpr c22
            (first | rw [c22b0] | (simp only [i64_w, i32_w]; rw [c22b0]) | skip)
            have H' := Aside0.mk H
            clear H
            go_wp2
            go_meet
            case rel => exact ⟨_, (decide (a1 > 250)), (by first | rfl | (simp; done) | (simp [*]; done)), H', ⟨by have := HJ2.out; first | omega | exact Nat.le_refl _⟩, ⟨by (with_reducible repeat (first | apply Kd.N_alloc | apply Kd.N_drewN | apply Kd.N_drew)); exact Kd.N_mono HO288.out (fun _ hk => trivial)⟩, ⟨by repeat (first | (with_reducible first | exact HB.out | apply below_alloc | apply pw_below_drewN | apply below_drew1) | exact HB.out)⟩⟩
        case rest =>
          clear HC13
          try clear c1
          try clear c2
          try clear p2
          try clear c4
          try clear c4b0
          try clear c4b1
          try clear c5
          try clear c5b0
          try clear c5b1
          try clear c6
          try clear c6b0
          try clear c6b1
          try clear c7
          try clear c7b0
          try clear c7b1
          try clear c8
          try clear c11
          try clear c14
          try clear c22
          try clear c22b0
          try clear c22b1
          try clear p2
          obtain ⟨kq, x56_12, rfl, HA, HJ12, HO_5, HB⟩ := hcut
          cases kq with
          | zero => exact absurd HA.out (by simp [redactorlaw14_SubstEnds.j1])
          | succ kj12 =>
            have H := HA.out
            clear HA
            simp only [redactorlaw14_SubstEnds.j1] at H
            by_cases c23 : x56_12 = true
            · subst c23
              have H1 : (if t285 = 0 then (if t284 = 5 then (some (t294 == 30)) else (some false)) else (some false)) = some r := by rw [if_pos rfl] at H; exact H
              clear H
              have H := H1
              clear H1
              by_cases c24 : t285 = 0
              · rw [if_pos c24] at H
                have c24b0 : (t285 == 0) = true := beq_iff_eq.mpr c24
                have c24b1 : (t285 != 0) = false := bne_eq_false_iff_eq.mpr c24
                clear c24
                by_cases c25 : t284 = 5
                · rw [if_pos c25] at H
                  have c25b0 : (t284 == 5) = true := beq_iff_eq.mpr c25
                  have c25b1 : (t284 != 5) = false := bne_eq_false_iff_eq.mpr c25
                  clear c25
                  obtain rfl := Option.some.inj H
                  go_wp2
                  go_ret
                  exact ⟨by first | rfl | (simp [errW_none, errW_some] <;> rfl) | (simp [*, errW_none, errW_some] <;> rfl), by repeat (first | (with_reducible first | exact HB.out | apply below_alloc | apply pw_below_drewN | apply below_drew1) | exact HB.out)⟩
                · rw [if_neg c25] at H
                  have c25b0 : (t284 == 5) = false := beq_eq_false_iff_ne.mpr c25
                  have c25b1 : (t284 != 5) = true := bne_iff_ne.mpr c25
                  obtain rfl := Option.some.inj H
                  go_wp2
                  go_ret
                  exact ⟨by first | rfl | (simp [errW_none, errW_some] <;> rfl) | (simp [*, errW_none, errW_some] <;> rfl), by repeat (first | (with_reducible first | exact HB.out | apply below_alloc | apply pw_below_drewN | apply below_drew1) | exact HB.out)⟩
              · rw [if_neg c24] at H
                have c24b0 : (t285 == 0) = false := beq_eq_false_iff_ne.mpr c24
                have c24b1 : (t285 != 0) = true := bne_iff_ne.mpr c24
                obtain rfl := Option.some.inj H
                go_wp2
                go_ret
                exact ⟨by first | rfl | (simp [errW_none, errW_some] <;> rfl) | (simp [*, errW_none, errW_some] <;> rfl), by repeat (first | (with_reducible first | exact HB.out | apply below_alloc | apply pw_below_drewN | apply below_drew1) | exact HB.out)⟩
            · replace c23 := Bool.eq_false_iff.mpr c23
              subst c23
              have H1 : ((redactorlaw14_known.f kj12).bind fun t298 => (if t298 = true then (if t285 = 0 then (if t284 = 5 then (if t294 = 30 then (if t295 = 3 then ((subst_Expand.f kj12 t283 ([] : List Int) ([] : List (S44))).bind fun t299 => ((redactorref01_Same.f kj12 t299 (([120, a0, 121] : List Int))).bind fun t305 => (some t305))) else (some false)) else (some false)) else (some false)) else (some false)) else (some false))) = some r := by rw [if_neg (show ¬ (false = true) by decide)] at H; exact H
              clear H
              have H := H1
              clear H1
              replace H := Option.bind_eq_some_iff.mp H
              obtain ⟨t298, A260, H⟩ := H
              replace H : (if t298 = true then (if t285 = 0 then (if t284 = 5 then (if t294 = 30 then (if t295 = 3 then ((subst_Expand.f kj12 t283 ([] : List Int) ([] : List (S44))).bind fun t299 => ((redactorref01_Same.f kj12 t299 (([120, a0, 121] : List Int))).bind fun t305 => (some t305))) else (some false)) else (some false)) else (some false)) else (some false)) else (some false)) = some r := H
              have A26 := Aside0.mk A260
              clear A260
              by_cases c27 : t298 = true
              · subst c27
                have H1 : (if t285 = 0 then (if t284 = 5 then (if t294 = 30 then (if t295 = 3 then ((subst_Expand.f kj12 t283 ([] : List Int) ([] : List (S44))).bind fun t299 => ((redactorref01_Same.f kj12 t299 (([120, a0, 121] : List Int))).bind fun t305 => (some t305))) else (some false)) else (some false)) else (some false)) else (some false)) = some r := by rw [if_pos rfl] at H; exact H
                clear H
                have H := H1
                clear H1
                by_cases c28 : t285 = 0
                · rw [if_pos c28] at H
                  have c28b0 : (t285 == 0) = true := beq_iff_eq.mpr c28
                  have c28b1 : (t285 != 0) = false := bne_eq_false_iff_eq.mpr c28
                  clear c28
                  by_cases c29 : t284 = 5
                  · rw [if_pos c29] at H
                    have c29b0 : (t284 == 5) = true := beq_iff_eq.mpr c29
                    have c29b1 : (t284 != 5) = false := bne_eq_false_iff_eq.mpr c29
                    clear c29
                    by_cases c30 : t294 = 30
                    · rw [if_pos c30] at H
                      have c30b0 : (t294 == 30) = true := beq_iff_eq.mpr c30
                      have c30b1 : (t294 != 30) = false := bne_eq_false_iff_eq.mpr c30
                      clear c30
                      by_cases c31 : t295 = 3
                      · rw [if_pos c31] at H
                        have c31b0 : (t295 == 3) = true := beq_iff_eq.mpr c31
                        have c31b1 : (t295 != 3) = false := bne_eq_false_iff_eq.mpr c31
                        clear c31
                        replace H := Option.bind_eq_some_iff.mp H
                        obtain ⟨t299, A320, H⟩ := H
                        replace H : ((redactorref01_Same.f kj12 t299 (([120, a0, 121] : List Int))).bind fun t305 => (some t305)) = some r := H
                        have A32 := Aside0.mk A320
                        clear A320
                        obtain ⟨y302, hy302⟩ : ∃ y_ : List Int, y_ = (([120, a0, 121] : List Int)) := ⟨_, rfl⟩
                        replace H : ((redactorref01_Same.f kj12 t299 y302).bind fun t305 => (some t305)) = some r := by first | (rw [hy302]; with_reducible exact H) | (have H2_ := (Option.bind_some _ _).symm.trans H; rw [hy302]; with_reducible exact H2_) | (have H2_ := (Option.bind_some _ _).symm.trans H; with_reducible exact H2_) | with_reducible exact H | (rw [hy302]; exact H) | exact H
                        have Ny302 := Aside0.mk hy302
                        clear hy302
                        replace H := Option.bind_eq_some_iff.mp H
                        obtain ⟨t305, A330, H⟩ := H
                        replace H : (some t305) = some r := H
                        have A33 := Aside0.mk A330
                        clear A330
                        obtain rfl := Option.some.inj H
                        go_wp2_with (first | ((with_reducible refine gate_callee (f := 11) rfl ?_); refine goesL_ (some 67) rfl rfl Try.func11 (by kernel_rfl) rfl #[] rfl (by (try simp only [List.map_toArray, List.map_cons, List.map_nil]); first | done | rfl | (simp only [List.length_drop, List.length_take]; rfl)) ?_; (with_reducible refine (redactorlaw14_known.calls kj12  true _ A26.out).mono ?_); rintro e w34 ⟨rfl, hb⟩; refine ⟨_, rfl, ?_⟩; have n0_ := Aside0.mk (Kd.N_below (by (with_reducible repeat (first | apply Kd.N_alloc | apply Kd.N_drewN | apply Kd.N_drew)); exact HO_5.out) hb); have n1_ := Aside0.mk (below_step (by repeat (first | (with_reducible first | exact HB.out | apply below_alloc | apply pw_below_drewN | apply below_drew1) | exact HB.out)) hb); clear HO_5; clear HB; have HO_5 := n0_; have HB := n1_; clear n0_ n1_; (try clear hb); (try clear hb2); (try clear hk); (try clear hi); obtain ⟨Ao35, co35, eo35⟩ := Kd.N_slice HO_5.out; subst eo35) | (go_at_call 16; (refine (subst_Expand.calls kj12 _ _ t283 _ _ ([] : List Int) _ _ ([] : List (S44)) t299 _ ?side1 ?side2 ?side3 ?side4 ?side5 ?side6 A32.out).mono ?_); (case side1 => repeat (first | exact (Kd.N_reads' HO_5.out).2.2 | (with_reducible refine Kd.C_alloc ?_ _) | (with_reducible refine Kd.C_drewN ?_ _) | (with_reducible refine Kd.C_drew ?_))); (case side2 => exact (Kd.N_reads' HO_5.out).2.1); (case side3 => exact Kd.C_nil _ _); (case side4 => exact Nat.le_refl _); (case side5 => exact Kd.C_nil _ _); (case side6 => exact Nat.le_refl _); rintro e w36 ⟨v300, rfl, ho0, hb⟩; have n0_ := Aside0.mk (Kd.N_elder' (by (with_reducible repeat (first | apply Kd.N_alloc | apply Kd.N_drewN | apply Kd.N_drew)); exact HO_5.out) (Kd.R_base ho0) hb); have n1_ := Aside0.mk (Kd.R_lower ho0 (below_size (by repeat (first | (with_reducible first | exact HB.out | apply below_alloc | apply pw_below_drewN | apply below_drew1) | exact HB.out)))); have n2_ := Aside0.mk (below_step (by repeat (first | (with_reducible first | exact HB.out | apply below_alloc | apply pw_below_drewN | apply below_drew1) | exact HB.out)) hb); clear HO_5; clear HB; have HO_5 := n0_; have HO301 := n1_; have HB := n2_; clear n0_ n1_ n2_; (try clear hb); (try clear hb2); (try clear hk); (try clear hi); (try clear ho0)) | ((with_reducible refine gate_dst (N := 88) rfl ?_); (try (refine gate_guard (by rfl) ?_; dsimp only)); refine Kd.R_lit (Kd.int .i32) _ 24 ?hg (N := 88) ?hd (xs := ([120, a0, 121] : List Int)) (inner := [.int .i32 120, .int .i32 a0, .int .i32 121]) (ok := fun _ => True) (okp := fun _ => True) ?hr ?hp (fun _ hk => hk) trivial (Below.refl _ _) (Nat.le_refl _) (by simp) ?_; (case hd => rfl); (case hg => rfl); (case hr => first | (go_simp; done) | (go_simp; rfl)); (case hp => exact (Reps.one (show Kd.M (Kd.int .i32) _ _ _ 120 [.int .i32 120] from rfl) (Reps.one (show Kd.M (Kd.int .i32) _ _ _ a0 [.int .i32 a0] from rfl) (Reps.one (show Kd.M (Kd.int .i32) _ _ _ 121 [.int .i32 121] from rfl) (Reps.none _ _))))); intro v303 w37 ho38 hb hg_ hnew_; clear hg_ hnew_; (first | rw [← Ny302.out] at ho38 | (simp only [Int.reduceToNat] at ho38; rw [← Ny302.out] at ho38)); have n0_ := Aside0.mk (Kd.N_elder' (by (with_reducible repeat (first | apply Kd.N_alloc | apply Kd.N_drewN | apply Kd.N_drew)); exact HO_5.out) (Kd.R_base ho38) hb); have n1_ := Aside0.mk (Kd.R_elder' (by (with_reducible repeat (first | apply Kd.R_alloc | apply Kd.R_drewN | apply Kd.R_drew)); exact HO301.out) (Kd.R_base ho38) hb); have n2_ := Aside0.mk (Kd.R_lower (Kd.R_new' ho38 (Kd.R_lt (by (with_reducible repeat (first | apply Kd.R_alloc | apply Kd.R_drewN | apply Kd.R_drew)); exact HO301.out))) (below_size (by repeat (first | (with_reducible first | exact HB.out | apply below_alloc | apply pw_below_drewN | apply below_drew1) | exact HB.out)))); have n3_ := Aside0.mk (below_step (by repeat (first | (with_reducible first | exact HB.out | apply below_alloc | apply pw_below_drewN | apply below_drew1) | exact HB.out)) hb); clear HO_5; clear HO301; clear HB; have HO_5 := n0_; have HO301 := n1_; have HO304 := n2_; have HB := n3_; clear n0_ n1_ n2_ n3_; clear hb ho38; obtain ⟨Ao39, co39, eo39⟩ := Kd.R_slice HO301.out; subst eo39; obtain ⟨Ao40, co40, eo40⟩ := Kd.R_slice HO304.out; subst eo40) | (go_at_call 12; (with_reducible refine (redactorref01_Same.calls kj12 _ _ t299 _ _ y302 t305 _ ?side1 ?side2 ?side3 ?side4 A33.out).mono ?_); (case side1 => repeat (first | exact (Kd.R_reads' HO301.out).2.2 | (with_reducible refine Kd.C_alloc ?_ _) | (with_reducible refine Kd.C_drewN ?_ _) | (with_reducible refine Kd.C_drew ?_))); (case side2 => exact (Kd.R_reads' HO301.out).2.1); (case side3 => repeat (first | exact (Kd.R_reads' HO304.out).2.2 | (with_reducible refine Kd.C_alloc ?_ _) | (with_reducible refine Kd.C_drewN ?_ _) | (with_reducible refine Kd.C_drew ?_))); (case side4 => exact (Kd.R_reads' HO304.out).2.1); rintro e w' ⟨rfl, ⟨nd, rfl⟩⟩))
                        go_ret
                        exact ⟨by first | rfl | (simp [errW_none, errW_some] <;> rfl) | (simp [*, errW_none, errW_some] <;> rfl), by repeat (first | (with_reducible first | exact HB.out | apply below_alloc | apply pw_below_drewN | apply below_drew1) | exact HB.out)⟩
                      · rw [if_neg c31] at H
                        have c31b0 : (t295 == 3) = false := beq_eq_false_iff_ne.mpr c31
                        have c31b1 : (t295 != 3) = true := bne_iff_ne.mpr c31
                        obtain rfl := Option.some.inj H
                        go_wp2_with (first | ((with_reducible refine gate_callee (f := 11) rfl ?_); refine goesL_ (some 67) rfl rfl Try.func11 (by kernel_rfl) rfl #[] rfl (by (try simp only [List.map_toArray, List.map_cons, List.map_nil]); first | done | rfl | (simp only [List.length_drop, List.length_take]; rfl)) ?_; (with_reducible refine (redactorlaw14_known.calls kj12  true _ A26.out).mono ?_); rintro e w41 ⟨rfl, hb⟩; refine ⟨_, rfl, ?_⟩; have n0_ := Aside0.mk (Kd.N_below (by (with_reducible repeat (first | apply Kd.N_alloc | apply Kd.N_drewN | apply Kd.N_drew)); exact HO_5.out) hb); have n1_ := Aside0.mk (below_step (by repeat (first | (with_reducible first | exact HB.out | apply below_alloc | apply pw_below_drewN | apply below_drew1) | exact HB.out)) hb); clear HO_5; clear HB; have HO_5 := n0_; have HB := n1_; clear n0_ n1_; (try clear hb); (try clear hb2); (try clear hk); (try clear hi)))
                        go_ret
                        exact ⟨by first | rfl | (simp [errW_none, errW_some] <;> rfl) | (simp [*, errW_none, errW_some] <;> rfl), by repeat (first | (with_reducible first | exact HB.out | apply below_alloc | apply pw_below_drewN | apply below_drew1) | exact HB.out)⟩
                    · rw [if_neg c30] at H
                      have c30b0 : (t294 == 30) = false := beq_eq_false_iff_ne.mpr c30
                      have c30b1 : (t294 != 30) = true := bne_iff_ne.mpr c30
                      obtain rfl := Option.some.inj H
                      go_wp2_with (first | ((with_reducible refine gate_callee (f := 11) rfl ?_); refine goesL_ (some 67) rfl rfl Try.func11 (by kernel_rfl) rfl #[] rfl (by (try simp only [List.map_toArray, List.map_cons, List.map_nil]); first | done | rfl | (simp only [List.length_drop, List.length_take]; rfl)) ?_; (with_reducible refine (redactorlaw14_known.calls kj12  true _ A26.out).mono ?_); rintro e w42 ⟨rfl, hb⟩; refine ⟨_, rfl, ?_⟩; have n0_ := Aside0.mk (Kd.N_below (by (with_reducible repeat (first | apply Kd.N_alloc | apply Kd.N_drewN | apply Kd.N_drew)); exact HO_5.out) hb); have n1_ := Aside0.mk (below_step (by repeat (first | (with_reducible first | exact HB.out | apply below_alloc | apply pw_below_drewN | apply below_drew1) | exact HB.out)) hb); clear HO_5; clear HB; have HO_5 := n0_; have HB := n1_; clear n0_ n1_; (try clear hb); (try clear hb2); (try clear hk); (try clear hi)))
                      go_ret
                      exact ⟨by first | rfl | (simp [errW_none, errW_some] <;> rfl) | (simp [*, errW_none, errW_some] <;> rfl), by repeat (first | (with_reducible first | exact HB.out | apply below_alloc | apply pw_below_drewN | apply below_drew1) | exact HB.out)⟩
                  · rw [if_neg c29] at H
                    have c29b0 : (t284 == 5) = false := beq_eq_false_iff_ne.mpr c29
                    have c29b1 : (t284 != 5) = true := bne_iff_ne.mpr c29
                    obtain rfl := Option.some.inj H
                    go_wp2_with (first | ((with_reducible refine gate_callee (f := 11) rfl ?_); refine goesL_ (some 67) rfl rfl Try.func11 (by kernel_rfl) rfl #[] rfl (by (try simp only [List.map_toArray, List.map_cons, List.map_nil]); first | done | rfl | (simp only [List.length_drop, List.length_take]; rfl)) ?_; (with_reducible refine (redactorlaw14_known.calls kj12  true _ A26.out).mono ?_); rintro e w43 ⟨rfl, hb⟩; refine ⟨_, rfl, ?_⟩; have n0_ := Aside0.mk (Kd.N_below (by (with_reducible repeat (first | apply Kd.N_alloc | apply Kd.N_drewN | apply Kd.N_drew)); exact HO_5.out) hb); have n1_ := Aside0.mk (below_step (by repeat (first | (with_reducible first | exact HB.out | apply below_alloc | apply pw_below_drewN | apply below_drew1) | exact HB.out)) hb); clear HO_5; clear HB; have HO_5 := n0_; have HB := n1_; clear n0_ n1_; (try clear hb); (try clear hb2); (try clear hk); (try clear hi)))
                    go_ret
                    exact ⟨by first | rfl | (simp [errW_none, errW_some] <;> rfl) | (simp [*, errW_none, errW_some] <;> rfl), by repeat (first | (with_reducible first | exact HB.out | apply below_alloc | apply pw_below_drewN | apply below_drew1) | exact HB.out)⟩
                · rw [if_neg c28] at H
                  have c28b0 : (t285 == 0) = false := beq_eq_false_iff_ne.mpr c28
                  have c28b1 : (t285 != 0) = true := bne_iff_ne.mpr c28
                  obtain rfl := Option.some.inj H
                  go_wp2_with (first | ((with_reducible refine gate_callee (f := 11) rfl ?_); refine goesL_ (some 67) rfl rfl Try.func11 (by kernel_rfl) rfl #[] rfl (by (try simp only [List.map_toArray, List.map_cons, List.map_nil]); first | done | rfl | (simp only [List.length_drop, List.length_take]; rfl)) ?_; (with_reducible refine (redactorlaw14_known.calls kj12  true _ A26.out).mono ?_); rintro e w44 ⟨rfl, hb⟩; refine ⟨_, rfl, ?_⟩; have n0_ := Aside0.mk (Kd.N_below (by (with_reducible repeat (first | apply Kd.N_alloc | apply Kd.N_drewN | apply Kd.N_drew)); exact HO_5.out) hb); have n1_ := Aside0.mk (below_step (by repeat (first | (with_reducible first | exact HB.out | apply below_alloc | apply pw_below_drewN | apply below_drew1) | exact HB.out)) hb); clear HO_5; clear HB; have HO_5 := n0_; have HB := n1_; clear n0_ n1_; (try clear hb); (try clear hb2); (try clear hk); (try clear hi)))
                  go_ret
                  exact ⟨by first | rfl | (simp [errW_none, errW_some] <;> rfl) | (simp [*, errW_none, errW_some] <;> rfl), by repeat (first | (with_reducible first | exact HB.out | apply below_alloc | apply pw_below_drewN | apply below_drew1) | exact HB.out)⟩
              · replace c27 := Bool.eq_false_iff.mpr c27
                subst c27
                have H1 : (some false) = some r := by rw [if_neg (show ¬ (false = true) by decide)] at H; exact H
                clear H
                have H := H1
                clear H1
                obtain rfl := Option.some.inj H
                go_wp2_with (first | ((with_reducible refine gate_callee (f := 11) rfl ?_); refine goesL_ (some 67) rfl rfl Try.func11 (by kernel_rfl) rfl #[] rfl (by (try simp only [List.map_toArray, List.map_cons, List.map_nil]); first | done | rfl | (simp only [List.length_drop, List.length_take]; rfl)) ?_; (with_reducible refine (redactorlaw14_known.calls kj12  false _ A26.out).mono ?_); rintro e w45 ⟨rfl, hb⟩; refine ⟨_, rfl, ?_⟩; have n0_ := Aside0.mk (Kd.N_below (by (with_reducible repeat (first | apply Kd.N_alloc | apply Kd.N_drewN | apply Kd.N_drew)); exact HO_5.out) hb); have n1_ := Aside0.mk (below_step (by repeat (first | (with_reducible first | exact HB.out | apply below_alloc | apply pw_below_drewN | apply below_drew1) | exact HB.out)) hb); clear HO_5; clear HB; have HO_5 := n0_; have HB := n1_; clear n0_ n1_; (try clear hb); (try clear hb2); (try clear hk); (try clear hi)))
                go_ret
                exact ⟨by first | rfl | (simp [errW_none, errW_some] <;> rfl) | (simp [*, errW_none, errW_some] <;> rfl), by repeat (first | (with_reducible first | exact HB.out | apply below_alloc | apply pw_below_drewN | apply below_drew1) | exact HB.out)⟩

/-- THE ONE PURE STATEMENT of redactorlaw14_SubstEnds: yours. -/
def redactorlaw14_SubstEnds.Pure : Prop := ∀ (a0 : Int) (a1 : Int), (Lit.int .i32 a0).wf = true → (Lit.int .u8 a1).wf = true → ∃ k, redactorlaw14_SubstEnds.f k a0 a1 = some true
theorem redactorlaw14_SubstEnds.walk (P : redactorlaw14_SubstEnds.Pure) (a0 : Int) (a1 : Int) (w : World) (w0 : (Lit.int .i32 a0).wf = true) (w1 : (Lit.int .u8 a1).wf = true) :
    Calls Try.prog 6 #[.int .i32 a0, .int .u8 a1] w fun e w' => e = .returned (.bool true) ∧ Below w.heap.size w w' := by
  obtain ⟨k, h⟩ := P a0 a1 w0 w1
  refine (redactorlaw14_SubstEnds.calls k a0 a1 true w h).mono ?_
  rintro e w' ⟨rfl, hd⟩
  exact ⟨rfl, hd⟩

/-! ### redactorref14_put: function 26 -/
def redactorref14_put.f (l0 : List (S49)) (a1 : Int) : Option ((List (S49))) := if ([] : List (S49)).length + l0.length < 3518437208883 then ((some (([] : List (S49)) ++ l0 : List (S49))).bind fun y306 => (if (y306.length : Int) > 0 then (if 0 ≤ (wrap64 ((y306.length : Int) - 1)) then (if (wrap64 ((y306.length : Int) - 1)) < (y306.length : Int) then (if ((rd_T49 y306 (wrap64 ((y306.length : Int) - 1))).f0) = 1 then (if ([] : List Int).length + ((rd_T49 y306 (wrap64 ((y306.length : Int) - 1))).f1).length < 35184372088832 then ((some (([] : List Int) ++ ((rd_T49 y306 (wrap64 ((y306.length : Int) - 1))).f1) : List Int)).bind fun y311 => (if y311.length < 35184372088832 then (some (y306.set ((wrap64 ((y306.length : Int) - 1)) : Int).toNat (⟨1, (y311 ++ [a1]), 0⟩ : S49))) else (none))) else (none)) else (if y306.length < 3518437208883 then (some (y306 ++ [(⟨1, (([a1] : List Int)), 0⟩ : S49)])) else (none))) else (none)) else (none)) else (if y306.length < 3518437208883 then (some (y306 ++ [(⟨1, (([a1] : List Int)), 0⟩ : S49)])) else (none)))) else (none)
set_option maxHeartbeats 8000000 in
set_option maxRecDepth 100000 in
theorem redactorref14_put.calls (P0_ : Nat → Prop) (A0 : Option Addr) (c0 : Nat) (l0 : List (S49)) (a1 : Int) (r : List (S49)) (w : World) (hs0 : Kd.V k49 49 w w.heap.size (fun k_ => P0_ k_) (.slice A0 l0.length c0) l0) (h : redactorref14_put.f l0 a1 = some r) :
    Calls Try.prog 26 #[.slice A0 l0.length c0, .int .i32 a1] w fun e w' => ∃ v0_ : Value, e = .returned (v0_) ∧ Kd.N k49 49 w' w.heap.size (fun k_ => (P0_ k_ ∨ w.heap.size ≤ k_)) v0_ r ∧ Below w.heap.size w w' := by
  have hu49 := Try.underlying49
  have HO0 := Aside0.mk (show Kd.V k49 49 w w.heap.size (fun k_ => (P0_ k_ ∨ w.heap.size ≤ k_)) (.slice A0 l0.length c0) l0 from Kd.V_mono hs0 (fun k_ hk => .inl hk))
  have HB := Aside0.mk (Below.refl w.heap.size w)
  have H : (if ([] : List (S49)).length + l0.length < 3518437208883 then ((some (([] : List (S49)) ++ l0 : List (S49))).bind fun y306 => (if (y306.length : Int) > 0 then (if 0 ≤ (wrap64 ((y306.length : Int) - 1)) then (if (wrap64 ((y306.length : Int) - 1)) < (y306.length : Int) then (if ((rd_T49 y306 (wrap64 ((y306.length : Int) - 1))).f0) = 1 then (if ([] : List Int).length + ((rd_T49 y306 (wrap64 ((y306.length : Int) - 1))).f1).length < 35184372088832 then ((some (([] : List Int) ++ ((rd_T49 y306 (wrap64 ((y306.length : Int) - 1))).f1) : List Int)).bind fun y311 => (if y311.length < 35184372088832 then (some (y306.set ((wrap64 ((y306.length : Int) - 1)) : Int).toNat (⟨1, (y311 ++ [a1]), 0⟩ : S49))) else (none))) else (none)) else (if y306.length < 3518437208883 then (some (y306 ++ [(⟨1, (([a1] : List Int)), 0⟩ : S49)])) else (none))) else (none)) else (none)) else (if y306.length < 3518437208883 then (some (y306 ++ [(⟨1, (([a1] : List Int)), 0⟩ : S49)])) else (none)))) else (none)) = some r := h
  clear h
  by_cases c3 : ([] : List (S49)).length + l0.length < 3518437208883
  · rw [if_pos c3] at H
    have LMc3 := Aside0.mk c3
    clear c3
    obtain ⟨y306, hy306⟩ : ∃ y_ : List (S49), y_ = (([] : List (S49)) ++ l0) := ⟨_, rfl⟩
    replace H : (if (y306.length : Int) > 0 then (if 0 ≤ (wrap64 ((y306.length : Int) - 1)) then (if (wrap64 ((y306.length : Int) - 1)) < (y306.length : Int) then (if ((rd_T49 y306 (wrap64 ((y306.length : Int) - 1))).f0) = 1 then (if ([] : List Int).length + ((rd_T49 y306 (wrap64 ((y306.length : Int) - 1))).f1).length < 35184372088832 then ((some (([] : List Int) ++ ((rd_T49 y306 (wrap64 ((y306.length : Int) - 1))).f1) : List Int)).bind fun y311 => (if y311.length < 35184372088832 then (some (y306.set ((wrap64 ((y306.length : Int) - 1)) : Int).toNat (⟨1, (y311 ++ [a1]), 0⟩ : S49))) else (none))) else (none)) else (if y306.length < 3518437208883 then (some (y306 ++ [(⟨1, (([a1] : List Int)), 0⟩ : S49)])) else (none))) else (none)) else (none)) else (if y306.length < 3518437208883 then (some (y306 ++ [(⟨1, (([a1] : List Int)), 0⟩ : S49)])) else (none))) = some r := by first | (rw [hy306]; with_reducible exact H) | (have H2_ := (Option.bind_some _ _).symm.trans H; rw [hy306]; with_reducible exact H2_) | (have H2_ := (Option.bind_some _ _).symm.trans H; with_reducible exact H2_) | with_reducible exact H | (rw [hy306]; exact H) | exact H
    have Ny306 := Aside0.mk hy306
    clear hy306
    by_cases c4 : (y306.length : Int) > 0
    · rw [if_pos c4] at H
      have c4b0 : decide (0 < (y306.length : Int)) = true := decide_eq_true c4
      have c4b1 : decide (0 < y306.length) = true := decide_eq_true (by omega)
      clear c4
      obtain ⟨ji5, hji5⟩ : ∃ j_ : Int, (wrap64 ((y306.length : Int) - 1)) = j_ := ⟨_, rfl⟩
      replace H : (if 0 ≤ (ji5) then (if (ji5) < (y306.length : Int) then (if ((rd_T49 y306 (ji5)).f0) = 1 then (if ([] : List Int).length + ((rd_T49 y306 (ji5)).f1).length < 35184372088832 then ((some (([] : List Int) ++ ((rd_T49 y306 (ji5)).f1) : List Int)).bind fun y311 => (if y311.length < 35184372088832 then (some (y306.set ((ji5) : Int).toNat (⟨1, (y311 ++ [a1]), 0⟩ : S49))) else (none))) else (none)) else (if y306.length < 3518437208883 then (some (y306 ++ [(⟨1, (([a1] : List Int)), 0⟩ : S49)])) else (none))) else (none)) else (none)) = some r := by first | (rw [hji5] at H; exact H) | (simp only [hji5] at H ⊢; exact H)
      have hji5w : (IntKind.i64.wrap ((y306.length : Int) - 1)) = ji5 := (i64_w _).trans hji5
      by_cases c6 : 0 ≤ (ji5)
      · rw [if_pos c6] at H
        have c6b0 : decide (0 ≤ (ji5)) = true := decide_eq_true c6
        clear c6
        by_cases c7 : (ji5) < (y306.length : Int)
        · rw [if_pos c7] at H
          have c7b0 : decide ((ji5) < (y306.length : Int)) = true := decide_eq_true c7
          clear c7
          by_cases c8 : ((rd_T49 y306 (ji5)).f0) = 1
          · rw [if_pos c8] at H
            have c8b0 : (((rd_T49 y306 (ji5)).f0) == 1) = true := beq_iff_eq.mpr c8
            have c8b1 : (((rd_T49 y306 (ji5)).f0) != 1) = false := bne_eq_false_iff_eq.mpr c8
            clear c8
            by_cases c9 : ([] : List Int).length + ((rd_T49 y306 (ji5)).f1).length < 35184372088832
            · rw [if_pos c9] at H
              have LMc9 := Aside0.mk c9
              clear c9
              obtain ⟨y311, hy311⟩ : ∃ y_ : List Int, y_ = (([] : List Int) ++ ((rd_T49 y306 (ji5)).f1)) := ⟨_, rfl⟩
              replace H : (if y311.length < 35184372088832 then (some (y306.set ((ji5) : Int).toNat (⟨1, (y311 ++ [a1]), 0⟩ : S49))) else (none)) = some r := by first | (rw [hy311]; with_reducible exact H) | (have H2_ := (Option.bind_some _ _).symm.trans H; rw [hy311]; with_reducible exact H2_) | (have H2_ := (Option.bind_some _ _).symm.trans H; with_reducible exact H2_) | with_reducible exact H | (rw [hy311]; exact H) | exact H
              have Ny311 := Aside0.mk hy311
              clear hy311
              by_cases c10 : y311.length < 35184372088832
              · rw [if_pos c10] at H
                have LMc10 := Aside0.mk c10
                clear c10
                obtain ⟨y314, hy314⟩ : ∃ y_ : List Int, y_ = (y311 ++ [a1]) := ⟨_, rfl⟩
                replace H : (some (y306.set ((ji5) : Int).toNat (⟨1, y314, 0⟩ : S49))) = some r := by first | (rw [hy314]; with_reducible exact H) | (have H2_ := (Option.bind_some _ _).symm.trans H; rw [hy314]; with_reducible exact H2_) | (have H2_ := (Option.bind_some _ _).symm.trans H; with_reducible exact H2_) | with_reducible exact H | (rw [hy314]; exact H) | exact H
                have Ny314 := Aside0.mk hy314
                clear hy314
                obtain ⟨y317, hy317⟩ : ∃ y_ : List (S49), y_ = (y306.set ((ji5) : Int).toNat (⟨1, y314, 0⟩ : S49)) := ⟨_, rfl⟩
                replace H : (some y317) = some r := by first | (rw [hy317]; with_reducible exact H) | (have H2_ := (Option.bind_some _ _).symm.trans H; rw [hy317]; with_reducible exact H2_) | (have H2_ := (Option.bind_some _ _).symm.trans H; with_reducible exact H2_) | with_reducible exact H | (rw [hy317]; exact H) | exact H
                have Ny317 := Aside0.mk hy317
                clear hy317
                obtain rfl := Option.some.inj H
                go_enter Try.func26, Try.ntmps26
                go_wp2_with (first | ((with_reducible refine gate_builtin (b := .append) (xs := #[.tmp 8, .tmp 9]) rfl ?_); at_builtin; refine Kd.N_append_rows k49 (w0 := w) w.heap.size rfl (.tmp 8) (.tmp 9) 38 49 (.agg #[(.int .u8 0), (.slice none 0 0), (.int .i64 0)]) 40 rfl Try.underlying38 info49 rfl (by decide) (by omega) (.slice none 0 0) ([] : List (S49)) l0 _ _ _ (fun k_ => (P0_ k_ ∨ w.heap.size ≤ k_)) (fun k_ => ((fun k_ => (P0_ k_ ∨ w.heap.size ≤ k_))) k_ ∧ some k_ ≠ (.slice none 0 0 : Value).ownBlock) rfl rfl ?aO ?aR (fun _ hk => hk) ?aF ?aB ?aS ?aL ?_; (case aR => exact (by skip; exact Kd.V_F (Kd.V_mono (ok' := (fun k_ => ((fun k_ => (P0_ k_ ∨ w.heap.size ≤ k_))) k_ ∧ some k_ ≠ (.slice none 0 0 : Value).ownBlock)) (HO0.out) (fun k_ hk => ⟨hk, (by simp [Value.ownBlock])⟩)))); (case aB => exact (by repeat (first | (with_reducible first | exact HB.out | apply below_alloc | apply pw_below_drewN | apply below_drew1) | exact HB.out))); (case aF => exact (fun k_ hk => (.inr (Nat.le_trans (below_size (by repeat (first | (with_reducible first | exact HB.out | apply below_alloc | apply pw_below_drewN | apply below_drew1) | exact HB.out))) hk)))); (case aO => exact ((Kd.N_nil _ _ _ _ (fun k_ => (P0_ k_ ∨ w.heap.size ≤ k_))))); (case aS => exact (below_size (by repeat (first | (with_reducible first | exact HB.out | apply below_alloc | apply pw_below_drewN | apply below_drew1) | exact HB.out)))); (case aL => have := LMc3.out; omega); intro v307 w12 ho hb hg hat; rw [← Ny306.out] at ho; have n0_ := Aside0.mk (Kd.V_afterv (Kd.V_apart_nil (by (with_reducible repeat (first | apply Kd.V_alloc | apply Kd.V_drewN | apply Kd.V_drew)); exact HO0.out)) hg hat); have n1_ := Aside0.mk (hb); have n2_ := Aside0.mk (ho); clear HO0; clear HB; have HO0 := n0_; have HB := n1_; have HO308 := n2_; clear n0_ n1_ n2_; clear ho hb hg hat; obtain ⟨Ao13, co13, eo13⟩ := Kd.N_slice HO308.out; subst eo13; have p309 : 0 ≤ ((ji5) : Int) := of_decide_eq_true (by first | (with_reducible assumption) | assumption); have q309 : (ji5) < (y306.length : Int) := of_decide_eq_true (by first | (with_reducible assumption) | assumption); obtain ⟨ad309, A309_1, c309_1, e309, hx309_0, hx309_1, hx309_2, hl309_1, hi309_1⟩ := at_T49 (Kd.N_reads' HO308.out).2.2 (ji5) p309 q309; cases e309; obtain ⟨ce309, hce309, hMe309, hcc309⟩ := Kd.N_get HO308.out z49 (ji5) p309 (by first | exact q309 | exact of_decide_eq_true (by first | (with_reducible assumption) | assumption) | (have e_ := (Kd.N_reads' HO308.out).1; omega)); obtain ⟨ua309_1, uc309_1, rfl, ul309_1, ge309_1⟩ := k49_openF hMe309; have hv309_1 := hcc309 1 _ rfl; rw [add_field _ _ 1 (by omega)] at hv309_1; replace hv309_1 := Option.some.inj (hv309_1.symm.trans hx309_1); injection hv309_1 with hva_ hvn_ hvc_; rw [hva_] at ge309_1; rw [hvc_] at ul309_1; have HL309_1 := Aside0.mk (show Kd.V (Kd.int .i32) 24 _ w.heap.size _ _ ((rd_T49 y306 (ji5)).f1) from Kd.V_mk ul309_1 ge309_1); clear hva_ hvn_ hvc_ ge309_1 ul309_1; clear hcc309 hce309; have HR309_1 := Aside0.mk hi309_1; have HC309_1 := Aside0.mk hl309_1; clear hi309_1 hl309_1; replace p309 := eq_true p309; replace q309 := eq_true q309; have p310 : 0 ≤ ((ji5) : Int) := of_decide_eq_true (by first | (with_reducible assumption) | assumption); have q310 : (ji5) < (y306.length : Int) := of_decide_eq_true (by first | (with_reducible assumption) | assumption); obtain ⟨ad310, A310_1, c310_1, e310, hx310_0, hx310_1, hx310_2, hl310_1, hi310_1⟩ := at_T49 (Kd.N_reads' HO308.out).2.2 (ji5) p310 q310; obtain rfl : ad309 = ad310 := (by injection e310); obtain ⟨ce310, hce310, hMe310, hcc310⟩ := Kd.N_get HO308.out z49 (ji5) p310 (by first | exact q310 | exact of_decide_eq_true (by first | (with_reducible assumption) | assumption) | (have e_ := (Kd.N_reads' HO308.out).1; omega)); obtain ⟨ua310_1, uc310_1, rfl, ul310_1, ge310_1⟩ := k49_openF hMe310; have hv310_1 := hcc310 1 _ rfl; rw [add_field _ _ 1 (by omega)] at hv310_1; replace hv310_1 := Option.some.inj (hv310_1.symm.trans hx310_1); injection hv310_1 with hva_ hvn_ hvc_; rw [hva_] at ge310_1; rw [hvc_] at ul310_1; have HL310_1 := Aside0.mk (show Kd.V (Kd.int .i32) 24 _ w.heap.size _ _ ((rd_T49 y306 (ji5)).f1) from Kd.V_mk ul310_1 ge310_1); clear hva_ hvn_ hvc_ ge310_1 ul310_1; clear hcc310 hce310; have HR310_1 := Aside0.mk hi310_1; have HC310_1 := Aside0.mk hl310_1; clear hi310_1 hl310_1; replace p310 := eq_true p310; replace q310 := eq_true q310; have ea_ := Option.some.inj (hx309_1.symm.trans hx310_1); injection ea_ with ea_ en_ ec_; subst ea_; subst ec_; clear en_) | ((with_reducible refine gate_builtin (b := .append) (xs := #[.tmp 24, .tmp 30]) rfl ?_); at_builtin; refine Kd.R_append_rows (Kd.int .i32) (w0 := w) w.heap.size rfl (.tmp 24) (.tmp 30) 23 24 (.int .i32 0) 4 rfl Try.underlying23 info24 rfl (by decide) (by omega) (.slice none 0 0) ([] : List Int) ((rd_T49 y306 (ji5)).f1) _ _ _ (fun k_ => (w.heap.size ≤ k_)) (fun _ => False) rfl rfl ?aO ?aR (fun _ _ h => h) (fun _ h => h.elim) ?aF ?aB ?aS ?aL ?_; (case aR => repeat (first | exact (by repeat (first | (with_reducible exact HR310_1.out) | (with_reducible refine Kd.C_alloc ?_ _) | (with_reducible refine Kd.C_drewN ?_ _) | (with_reducible refine Kd.C_drew ?_) | exact HR310_1.out)) | (with_reducible refine Kd.C_alloc ?_ _) | (with_reducible refine Kd.C_drewN ?_ _) | (with_reducible refine Kd.C_drew ?_))); (case aB => exact (by repeat (first | (with_reducible first | exact HB.out | apply below_alloc | apply pw_below_drewN | apply below_drew1) | exact HB.out))); (case aF => exact (fun k_ hk => (Nat.le_trans (below_size (by repeat (first | (with_reducible first | exact HB.out | apply below_alloc | apply pw_below_drewN | apply below_drew1) | exact HB.out))) hk))); (case aO => exact ((Kd.R_nil _ _ _ _ (fun k_ => (w.heap.size ≤ k_))))); (case aS => exact (below_size (by repeat (first | (with_reducible first | exact HB.out | apply below_alloc | apply pw_below_drewN | apply below_drew1) | exact HB.out)))); (case aL => have := LMc9.out; omega); intro v312 w14 ho hb hg hat; rw [← Ny311.out] at ho; have n0_ := Aside0.mk (Kd.V_afterv (Kd.V_apart_nil (by (with_reducible repeat (first | apply Kd.V_alloc | apply Kd.V_drewN | apply Kd.V_drew)); exact HO0.out)) hg hat); have n1_ := Aside0.mk (Kd.N_afterv (Kd.N_apart_nil (by (with_reducible repeat (first | apply Kd.N_alloc | apply Kd.N_drewN | apply Kd.N_drew)); exact HO308.out)) hg hat); have n2_ := Aside0.mk (Kd.V_afterv (Kd.V_apart_nil (by (with_reducible repeat (first | apply Kd.V_alloc | apply Kd.V_drewN | apply Kd.V_drew)); exact HL309_1.out)) hg hat); have n3_ := Aside0.mk (Kd.V_afterv (Kd.V_apart_nil (by (with_reducible repeat (first | apply Kd.V_alloc | apply Kd.V_drewN | apply Kd.V_drew)); exact HL310_1.out)) hg hat); have n4_ := Aside0.mk (hb); have n5_ := Aside0.mk (ho); clear HO0; clear HO308; clear HL309_1; clear HL310_1; clear HB; have HO0 := n0_; have HO308 := n1_; have HL309_1 := n2_; have HL310_1 := n3_; have HB := n4_; have HO313 := n5_; clear n0_ n1_ n2_ n3_ n4_ n5_; clear ho hb hg hat) | ((with_reducible refine gate_builtin (b := .append) (xs := #[.tmp 32, .tmp 34]) rfl ?_); at_builtin; refine Kd.R_append (Kd.int .i32) (w0 := w) w.heap.size rfl (.tmp 32) (.tmp 34) 23 24 (.int .i32 0) 4 rfl Try.underlying23 info24 rfl (by decide) (by omega) v312 y311 a1 [.int .i32 a1] (fun k_ => (w.heap.size ≤ k_)) (fun _ => False) rfl rfl ?aP (fun _ hk => hk.elim) ?aF ?aO ?aB ?aS ?aL ?_; (case aP => exact rfl); (case aB => exact (by repeat (first | (with_reducible first | exact HB.out | apply below_alloc | apply pw_below_drewN | apply below_drew1) | exact HB.out))); (case aF => exact (fun k_ hk => (Nat.le_trans (below_size (by repeat (first | (with_reducible first | exact HB.out | apply below_alloc | apply pw_below_drewN | apply below_drew1) | exact HB.out))) hk))); (case aO => exact (by (with_reducible repeat (first | apply Kd.R_alloc | apply Kd.R_drewN | apply Kd.R_drew)); exact HO313.out)); (case aS => exact (below_size (by repeat (first | (with_reducible first | exact HB.out | apply below_alloc | apply pw_below_drewN | apply below_drew1) | exact HB.out)))); (case aL => have := LMc10.out; omega); intro v315 w15 ho hb hg hat; rw [← Ny314.out] at ho; have n0_ := Aside0.mk (Kd.V_afterv (ok := (fun k_ => (P0_ k_ ∨ w.heap.size ≤ k_) ∧ some k_ ≠ (.slice (some ad309) y306.length co13 : Value).ownBlock)) (by (with_reducible repeat (first | apply Kd.V_alloc | apply Kd.V_drewN | apply Kd.V_drew)); exact HO0.out) hg hat); have n1_ := Aside0.mk (Kd.N_afterv (ok := (fun k_ => (P0_ k_ ∨ w.heap.size ≤ k_))) (by (with_reducible repeat (first | apply Kd.N_alloc | apply Kd.N_drewN | apply Kd.N_drew)); exact HO308.out) hg hat); have n2_ := Aside0.mk (Kd.V_afterv (ok := (fun k_ => (P0_ k_ ∨ w.heap.size ≤ k_) ∧ some k_ ≠ (.slice (some ad309) y306.length co13 : Value).ownBlock)) (by (with_reducible repeat (first | apply Kd.V_alloc | apply Kd.V_drewN | apply Kd.V_drew)); exact HL309_1.out) hg hat); have n3_ := Aside0.mk (Kd.V_afterv (ok := (fun k_ => (P0_ k_ ∨ w.heap.size ≤ k_) ∧ some k_ ≠ (.slice (some ad309) y306.length co13 : Value).ownBlock)) (by (with_reducible repeat (first | apply Kd.V_alloc | apply Kd.V_drewN | apply Kd.V_drew)); exact HL310_1.out) hg hat); have n4_ := Aside0.mk (hb); have n5_ := Aside0.mk (ho); clear HO0; clear HO308; clear HL309_1; clear HL310_1; clear HB; clear HO313; have HO0 := n0_; have HO308 := n1_; have HL309_1 := n2_; have HL310_1 := n3_; have HB := n4_; have HO316 := n5_; clear n0_ n1_ n2_ n3_ n4_ n5_; clear ho hb hg hat; obtain ⟨Ao16, co16, eo16⟩ := Kd.R_slice HO316.out; subst eo16; have p11 : 0 ≤ ((ji5) : Int) := of_decide_eq_true (by first | (with_reducible assumption) | assumption); have q11 : ((ji5) : Int) < ((y306.length : Int) : Int) := of_decide_eq_true (by first | (with_reducible assumption) | assumption); obtain ⟨go11, co11, eo11, gb11, gl11, cl11, HG11⟩ := Kd.N_form HO308.out (by omega); (first | cases eo11 | (injection eo11 with ea_ en_ ec_; (first | subst ea_ | (injection ea_ with ea_; subst ea_)); subst ec_; clear en_)); have GB11 := Aside0.mk gb11; have GG11 := Aside0.mk HG11; clear gb11 gl11 HG11; (first | simp only [add_plain] at hx309_0 | skip); (first | simp only [add_plain] at hx309_1 | skip); (first | simp only [add_plain] at hx309_2 | skip); (first | simp only [add_plain] at hx310_0 | skip); (first | simp only [add_plain] at hx310_1 | skip); (first | simp only [add_plain] at hx310_2 | skip); obtain ⟨ce11, hcl11, hM11, hcc11, hfr11⟩ := Kd.N_elem HO308.out z49 ((ji5) : Int) p11 q11; obtain ⟨ua11_1, uc11_1, rfl, ul11_1, ge11_1⟩ := k49_openF hM11; have hx11_0 : w15.cell? ⟨go11, ((ji5) : Int).toNat * 3, none⟩ = some (.int .u8 ((rd_T49 y306 (ji5)).f0)) := hcc11 0 _ rfl; have hx11_1 : w15.cell? ⟨go11, ((ji5) : Int).toNat * 3 + 1, none⟩ = some (.slice ua11_1 ((rd_T49 y306 (ji5)).f1).length uc11_1) := hcc11 1 _ rfl; have hx11_2 : w15.cell? ⟨go11, ((ji5) : Int).toNat * 3 + 2, none⟩ = some (.int .i64 ((rd_T49 y306 (ji5)).f2)) := hcc11 2 _ rfl; have hf11_0 : w15.frozen? ⟨go11, ((ji5) : Int).toNat * 3, none⟩ = false := hfr11 0; have hf11_1 : w15.frozen? ⟨go11, ((ji5) : Int).toNat * 3 + 1, none⟩ = false := hfr11 1; have hf11_2 : w15.frozen? ⟨go11, ((ji5) : Int).toNat * 3 + 2, none⟩ = false := hfr11 2; clear hcl11 hcc11 hfr11 hM11; replace p11 := eq_true p11; replace q11 := eq_true q11; have HX17 := Aside0.mk (show Kd.N k49 49 w15 w.heap.size (fun k_ => (P0_ k_ ∨ w.heap.size ≤ k_)) (.slice (some ⟨go11, 0, none⟩) y306.length co13) y306 from (by (with_reducible repeat (first | apply Kd.N_alloc | apply Kd.N_drewN | apply Kd.N_drew)); exact Kd.N_mono HO308.out (fun _ hk => hk.1))); obtain ⟨ce17, hcl17, hM17, hcc17, hfr17⟩ := Kd.N_elem HX17.out z49 ((ji5) : Int) (of_decide_eq_true (by first | (with_reducible assumption) | assumption)) (by have h_ : ((ji5) : Int) < ((y306.length : Int) : Int) := of_decide_eq_true (by first | (with_reducible assumption) | assumption); first | exact h_ | (have e_ := (Kd.N_reads' HO308.out).1; omega) | simpa using h_); obtain ⟨ua17_1, uc17_1, rfl, ul17_1, ge17_1⟩ := k49_openF hM17; have HP17 := Kd.N_seg HX17.out ((ji5) : Int) (of_decide_eq_true (by first | (with_reducible assumption) | assumption)) (by have h_ : ((ji5) : Int) < ((y306.length : Int) : Int) := of_decide_eq_true (by first | (with_reducible assumption) | assumption); first | exact h_ | (have e_ := (Kd.N_reads' HO308.out).1; omega) | simpa using h_) (seg := [.int .u8 1, .slice Ao16 y314.length co16, .int .i64 0]) (j := 0) hcl17 hcc17 (show 3 ≤ 3 from by decide) (x' := (⟨1, y314, 0⟩ : S49)) (k49_mkF _ _ (⟨1, y314, 0⟩ : S49) (Kd.R_reads' (Kd.R_mono (ok' := (fun k_ => ((fun k_ => (P0_ k_ ∨ w.heap.size ≤ k_))) k_ ∧ k_ ≠ go11)) (Kd.R_apart' (HO316.out) (Kd.N_typed HO308.out) (by decide)) (fun k_ hk => ⟨(.inr (hk.1)), fun e_ => (hk.2) (by rw [e_]; rfl)⟩))).2.1 (Kd.R_F (Kd.R_mono (ok' := (fun k_ => ((fun k_ => (P0_ k_ ∨ w.heap.size ≤ k_))) k_ ∧ k_ ≠ go11)) (Kd.R_apart' (HO316.out) (Kd.N_typed HO308.out) (by decide)) (fun k_ hk => ⟨(.inr (hk.1)), fun e_ => (hk.2) (by rw [e_]; rfl)⟩)))) (fun _ hk => hk); have hx17_0 := hcc17 0 _ rfl; (try simp only [show (k49).sz = 3 from rfl, Nat.mul_one, Nat.add_zero] at hx17_0); have hf17_0 := hfr17 0; (try simp only [show (k49).sz = 3 from rfl, Nat.mul_one, Nat.add_zero] at hf17_0); have hx17_1 := hcc17 1 _ rfl; (try simp only [show (k49).sz = 3 from rfl, Nat.mul_one, Nat.add_zero] at hx17_1); have hf17_1 := hfr17 1; (try simp only [show (k49).sz = 3 from rfl, Nat.mul_one, Nat.add_zero] at hf17_1); have hx17_2 := hcc17 2 _ rfl; (try simp only [show (k49).sz = 3 from rfl, Nat.mul_one, Nat.add_zero] at hx17_2); have hf17_2 := hfr17 2; (try simp only [show (k49).sz = 3 from rfl, Nat.mul_one, Nat.add_zero] at hf17_2); clear hcl17 hcc17 hfr17 hM17) | ((with_reducible refine gate_store (t := 49) (p := 41) rfl ?_); refine store_event (t := 49) (p := 41) (v := ?vo_w18) (w1 := (((w15.setCell ⟨go11, ((ji5) : Int).toNat * 3, none⟩ (.int .u8 1)).setCell ⟨go11, ((ji5) : Int).toNat * 3 + 1, none⟩ (.slice Ao16 y314.length co16)).setCell ⟨go11, ((ji5) : Int).toNat * 3 + 2, none⟩ (.int .i64 0))) ?hg ?ho ?hn ?hr ?_; (case ho => rfl); (case hg => rfl); (case hn => rfl); (case hr => first | (go_simp; done) | (go_simp; rfl)); intro w18 hw; have hg : w15.grownBy w18 (some go11) := (by rw [hw]; exact HP17.2); have hp_ : Kd.N k49 49 w18 w.heap.size (fun k_ => (P0_ k_ ∨ w.heap.size ≤ k_)) (.slice (some ⟨go11, 0, none⟩) y306.length co13) y317 := (by rw [hw, Ny317.out]; exact HP17.1); clear HP17; have n0_ := Aside0.mk (Kd.V_afterv (v := (.slice (some ⟨go11, 0, none⟩) y306.length co13)) (v1 := (.slice (some ⟨go11, 0, none⟩) y306.length co13)) (ok := (fun k_ => (P0_ k_ ∨ w.heap.size ≤ k_) ∧ some k_ ≠ (.slice Ao16 y314.length co16 : Value).ownBlock)) (by (with_reducible repeat (first | apply Kd.V_alloc | apply Kd.V_drewN | apply Kd.V_drew)); exact Kd.V_mono HO0.out (fun _ hk => ⟨⟨hk.1.1, hk.2⟩, hk.1.2⟩)) hg (.inl rfl)); have n1_ := Aside0.mk (hp_); have n2_ := Aside0.mk (Kd.V_afterv (v := (.slice (some ⟨go11, 0, none⟩) y306.length co13)) (v1 := (.slice (some ⟨go11, 0, none⟩) y306.length co13)) (ok := (fun k_ => (P0_ k_ ∨ w.heap.size ≤ k_) ∧ some k_ ≠ (.slice Ao16 y314.length co16 : Value).ownBlock)) (by (with_reducible repeat (first | apply Kd.V_alloc | apply Kd.V_drewN | apply Kd.V_drew)); exact Kd.V_mono HL309_1.out (fun _ hk => ⟨⟨hk.1.1, hk.2⟩, hk.1.2⟩)) hg (.inl rfl)); have n3_ := Aside0.mk (Kd.V_afterv (v := (.slice (some ⟨go11, 0, none⟩) y306.length co13)) (v1 := (.slice (some ⟨go11, 0, none⟩) y306.length co13)) (ok := (fun k_ => (P0_ k_ ∨ w.heap.size ≤ k_) ∧ some k_ ≠ (.slice Ao16 y314.length co16 : Value).ownBlock)) (by (with_reducible repeat (first | apply Kd.V_alloc | apply Kd.V_drewN | apply Kd.V_drew)); exact Kd.V_mono HL310_1.out (fun _ hk => ⟨⟨hk.1.1, hk.2⟩, hk.1.2⟩)) hg (.inl rfl)); have n4_ := Aside0.mk ((by rw [hw]; exact below_set (below_set (below_set (HB.out) GB11.out) GB11.out) GB11.out : Below w.heap.size w w18)); clear HO0; clear HO308; clear HL309_1; clear HL310_1; clear HB; clear HO316; have HO0 := n0_; have HO308 := n1_; have HL309_1 := n2_; have HL310_1 := n3_; have HB := n4_; clear n0_ n1_ n2_ n3_ n4_; clear hg hw hp_))
                go_ret
                exact ⟨_, by first | rfl | (simp [errW_none, errW_some] <;> rfl) | (simp only [← hji5]; first | rfl | (simp [errW_none, errW_some] <;> rfl)) | (simp [*, errW_none, errW_some] <;> rfl), by (with_reducible repeat (first | apply Kd.N_alloc | apply Kd.N_drewN | apply Kd.N_drew)); exact HO308.out, by repeat (first | (with_reducible first | exact HB.out | apply below_alloc | apply pw_below_drewN | apply below_drew1) | exact HB.out)⟩
              · rw [if_neg c10] at H
                exact absurd H (by simp)
            · rw [if_neg c9] at H
              exact absurd H (by simp)
          · rw [if_neg c8] at H
            have c8b0 : (((rd_T49 y306 (ji5)).f0) == 1) = false := beq_eq_false_iff_ne.mpr c8
            have c8b1 : (((rd_T49 y306 (ji5)).f0) != 1) = true := bne_iff_ne.mpr c8
            obtain ⟨y318, hy318⟩ : ∃ y_ : List Int, y_ = (([a1] : List Int)) := ⟨_, rfl⟩
            replace H : (if y306.length < 3518437208883 then (some (y306 ++ [(⟨1, y318, 0⟩ : S49)])) else (none)) = some r := by first | (rw [hy318]; with_reducible exact H) | (have H2_ := (Option.bind_some _ _).symm.trans H; rw [hy318]; with_reducible exact H2_) | (have H2_ := (Option.bind_some _ _).symm.trans H; with_reducible exact H2_) | with_reducible exact H | (rw [hy318]; exact H) | exact H
            have Ny318 := Aside0.mk hy318
            clear hy318
            by_cases c19 : y306.length < 3518437208883
            · rw [if_pos c19] at H
              have LMc19 := Aside0.mk c19
              clear c19
              obtain ⟨y321, hy321⟩ : ∃ y_ : List (S49), y_ = (y306 ++ [(⟨1, y318, 0⟩ : S49)]) := ⟨_, rfl⟩
              replace H : (some y321) = some r := by first | (rw [hy321]; with_reducible exact H) | (have H2_ := (Option.bind_some _ _).symm.trans H; rw [hy321]; with_reducible exact H2_) | (have H2_ := (Option.bind_some _ _).symm.trans H; with_reducible exact H2_) | with_reducible exact H | (rw [hy321]; exact H) | exact H
              have Ny321 := Aside0.mk hy321
              clear hy321
              obtain rfl := Option.some.inj H
              go_enter Try.func26, Try.ntmps26
              go_wp2_with (first | ((with_reducible refine gate_builtin (b := .append) (xs := #[.tmp 8, .tmp 9]) rfl ?_); at_builtin; refine Kd.N_append_rows k49 (w0 := w) w.heap.size rfl (.tmp 8) (.tmp 9) 38 49 (.agg #[(.int .u8 0), (.slice none 0 0), (.int .i64 0)]) 40 rfl Try.underlying38 info49 rfl (by decide) (by omega) (.slice none 0 0) ([] : List (S49)) l0 _ _ _ (fun k_ => (P0_ k_ ∨ w.heap.size ≤ k_)) (fun k_ => ((fun k_ => (P0_ k_ ∨ w.heap.size ≤ k_))) k_ ∧ some k_ ≠ (.slice none 0 0 : Value).ownBlock) rfl rfl ?aO ?aR (fun _ hk => hk) ?aF ?aB ?aS ?aL ?_; (case aR => exact (by skip; exact Kd.V_F (Kd.V_mono (ok' := (fun k_ => ((fun k_ => (P0_ k_ ∨ w.heap.size ≤ k_))) k_ ∧ some k_ ≠ (.slice none 0 0 : Value).ownBlock)) (HO0.out) (fun k_ hk => ⟨hk, (by simp [Value.ownBlock])⟩)))); (case aB => exact (by repeat (first | (with_reducible first | exact HB.out | apply below_alloc | apply pw_below_drewN | apply below_drew1) | exact HB.out))); (case aF => exact (fun k_ hk => (.inr (Nat.le_trans (below_size (by repeat (first | (with_reducible first | exact HB.out | apply below_alloc | apply pw_below_drewN | apply below_drew1) | exact HB.out))) hk)))); (case aO => exact ((Kd.N_nil _ _ _ _ (fun k_ => (P0_ k_ ∨ w.heap.size ≤ k_))))); (case aS => exact (below_size (by repeat (first | (with_reducible first | exact HB.out | apply below_alloc | apply pw_below_drewN | apply below_drew1) | exact HB.out)))); (case aL => have := LMc3.out; omega); intro v307 w20 ho hb hg hat; rw [← Ny306.out] at ho; have n0_ := Aside0.mk (Kd.V_afterv (Kd.V_apart_nil (by (with_reducible repeat (first | apply Kd.V_alloc | apply Kd.V_drewN | apply Kd.V_drew)); exact HO0.out)) hg hat); have n1_ := Aside0.mk (hb); have n2_ := Aside0.mk (ho); clear HO0; clear HB; have HO0 := n0_; have HB := n1_; have HO308 := n2_; clear n0_ n1_ n2_; clear ho hb hg hat; obtain ⟨Ao21, co21, eo21⟩ := Kd.N_slice HO308.out; subst eo21; have p309 : 0 ≤ ((ji5) : Int) := of_decide_eq_true (by first | (with_reducible assumption) | assumption); have q309 : (ji5) < (y306.length : Int) := of_decide_eq_true (by first | (with_reducible assumption) | assumption); obtain ⟨ad309, A309_1, c309_1, e309, hx309_0, hx309_1, hx309_2, hl309_1, hi309_1⟩ := at_T49 (Kd.N_reads' HO308.out).2.2 (ji5) p309 q309; cases e309; obtain ⟨ce309, hce309, hMe309, hcc309⟩ := Kd.N_get HO308.out z49 (ji5) p309 (by first | exact q309 | exact of_decide_eq_true (by first | (with_reducible assumption) | assumption) | (have e_ := (Kd.N_reads' HO308.out).1; omega)); obtain ⟨ua309_1, uc309_1, rfl, ul309_1, ge309_1⟩ := k49_openF hMe309; have hv309_1 := hcc309 1 _ rfl; rw [add_field _ _ 1 (by omega)] at hv309_1; replace hv309_1 := Option.some.inj (hv309_1.symm.trans hx309_1); injection hv309_1 with hva_ hvn_ hvc_; rw [hva_] at ge309_1; rw [hvc_] at ul309_1; have HL309_1 := Aside0.mk (show Kd.V (Kd.int .i32) 24 _ w.heap.size _ _ ((rd_T49 y306 (ji5)).f1) from Kd.V_mk ul309_1 ge309_1); clear hva_ hvn_ hvc_ ge309_1 ul309_1; clear hcc309 hce309; have HR309_1 := Aside0.mk hi309_1; have HC309_1 := Aside0.mk hl309_1; clear hi309_1 hl309_1; replace p309 := eq_true p309; replace q309 := eq_true q309) | ((with_reducible refine gate_dst (N := 45) rfl ?_); refine Kd.R_lit (Kd.int .i32) _ 24 ?hg (N := 45) ?hd (xs := ([a1] : List Int)) (inner := [.int .i32 a1]) (ok := fun _ => True) (okp := fun _ => True) ?hr ?hp (fun _ hk => hk) trivial (Below.refl _ _) (Nat.le_refl _) (by simp) ?_; (case hd => rfl); (case hg => rfl); (case hr => first | (go_simp; done) | (go_simp; rfl)); (case hp => exact (Reps.one (show Kd.M (Kd.int .i32) _ _ _ a1 [.int .i32 a1] from rfl) (Reps.none _ _))); intro v319 w22 ho23 hb hg_ hnew_; clear hg_ hnew_; (first | rw [← Ny318.out] at ho23 | (simp only [Int.reduceToNat] at ho23; rw [← Ny318.out] at ho23)); have n0_ := Aside0.mk (Kd.V_elder' (by (with_reducible repeat (first | apply Kd.V_alloc | apply Kd.V_drewN | apply Kd.V_drew)); exact HO0.out) (Kd.R_base ho23) hb); have n1_ := Aside0.mk (Kd.N_elder' (by (with_reducible repeat (first | apply Kd.N_alloc | apply Kd.N_drewN | apply Kd.N_drew)); exact HO308.out) (Kd.R_base ho23) hb); have n2_ := Aside0.mk (Kd.V_elder' (by (with_reducible repeat (first | apply Kd.V_alloc | apply Kd.V_drewN | apply Kd.V_drew)); exact HL309_1.out) (Kd.R_base ho23) hb); have n3_ := Aside0.mk (Kd.R_lower (Kd.R_newM (M := fun k_ => (w.heap.size ≤ k_)) ho23 (below_size (by repeat (first | (with_reducible first | exact HB.out | apply below_alloc | apply pw_below_drewN | apply below_drew1) | exact HB.out))) (fun k_ h_ => h_)) (below_size (by repeat (first | (with_reducible first | exact HB.out | apply below_alloc | apply pw_below_drewN | apply below_drew1) | exact HB.out)))); have n4_ := Aside0.mk (Kd.C_below (by repeat (first | (with_reducible exact HR309_1.out) | (with_reducible refine Kd.C_alloc ?_ _) | (with_reducible refine Kd.C_drewN ?_ _) | (with_reducible refine Kd.C_drew ?_) | exact HR309_1.out)) hb); have n5_ := Aside0.mk (below_step (by repeat (first | (with_reducible first | exact HB.out | apply below_alloc | apply pw_below_drewN | apply below_drew1) | exact HB.out)) hb); clear HO0; clear HO308; clear HL309_1; clear HR309_1; clear HB; have HO0 := n0_; have HO308 := n1_; have HL309_1 := n2_; have HO320 := n3_; have HR309_1 := n4_; have HB := n5_; clear n0_ n1_ n2_ n3_ n4_ n5_; clear hb ho23; obtain ⟨Ao24, co24, eo24⟩ := Kd.R_slice HO320.out; subst eo24) | ((with_reducible refine gate_builtin (b := .append) (xs := #[.tmp 43, .tmp 47]) rfl ?_); at_builtin; refine Kd.N_append k49 (w0 := w) w.heap.size rfl (.tmp 43) (.tmp 47) 38 49 (.agg #[(.int .u8 0), (.slice none 0 0), (.int .i64 0)]) 40 rfl Try.underlying38 info49 rfl (by decide) (by omega) (.slice (some ad309) y306.length co21) y306 (⟨1, y318, 0⟩ : S49) [.int .u8 1, .slice Ao24 y318.length co24, .int .i64 0] (fun k_ => (P0_ k_ ∨ w.heap.size ≤ k_)) (fun k_ => ((fun k_ => (P0_ k_ ∨ w.heap.size ≤ k_))) k_ ∧ some k_ ≠ (.slice (some ad309) y306.length co21 : Value).ownBlock) rfl rfl ?aP (fun _ hk => hk) ?aF ?aO ?aB ?aS ?aL ?_; (case aP => exact (k49_mkF _ _ (⟨1, y318, 0⟩ : S49) (Kd.R_reads' (Kd.R_mono (ok' := (fun k_ => ((fun k_ => (P0_ k_ ∨ w.heap.size ≤ k_))) k_ ∧ some k_ ≠ (.slice (some ad309) y306.length co21 : Value).ownBlock)) (Kd.R_apart' (HO320.out) (Kd.N_typed HO308.out) (by decide)) (fun k_ hk => ⟨(.inr (hk.1.1)), hk.2⟩))).2.1 (Kd.R_F (Kd.R_mono (ok' := (fun k_ => ((fun k_ => (P0_ k_ ∨ w.heap.size ≤ k_))) k_ ∧ some k_ ≠ (.slice (some ad309) y306.length co21 : Value).ownBlock)) (Kd.R_apart' (HO320.out) (Kd.N_typed HO308.out) (by decide)) (fun k_ hk => ⟨(.inr (hk.1.1)), hk.2⟩))))); (case aB => exact (by repeat (first | (with_reducible first | exact HB.out | apply below_alloc | apply pw_below_drewN | apply below_drew1) | exact HB.out))); (case aF => exact (fun k_ hk => (.inr (Nat.le_trans (below_size (by repeat (first | (with_reducible first | exact HB.out | apply below_alloc | apply pw_below_drewN | apply below_drew1) | exact HB.out))) hk)))); (case aO => exact (by (with_reducible repeat (first | apply Kd.N_alloc | apply Kd.N_drewN | apply Kd.N_drew)); exact Kd.N_mono HO308.out (fun _ hk => hk.1))); (case aS => exact (below_size (by repeat (first | (with_reducible first | exact HB.out | apply below_alloc | apply pw_below_drewN | apply below_drew1) | exact HB.out)))); (case aL => have := LMc19.out; omega); intro v322 w25 ho hb hg hat; rw [← Ny321.out] at ho; have n0_ := Aside0.mk (Kd.V_afterv (ok := (fun k_ => (P0_ k_ ∨ w.heap.size ≤ k_) ∧ some k_ ≠ (.slice Ao24 y318.length co24 : Value).ownBlock)) (by (with_reducible repeat (first | apply Kd.V_alloc | apply Kd.V_drewN | apply Kd.V_drew)); exact Kd.V_mono HO0.out (fun _ hk => ⟨⟨hk.1.1, hk.2⟩, hk.1.2⟩)) hg hat); have n1_ := Aside0.mk (Kd.V_afterv (ok := (fun k_ => (P0_ k_ ∨ w.heap.size ≤ k_) ∧ some k_ ≠ (.slice Ao24 y318.length co24 : Value).ownBlock)) (by (with_reducible repeat (first | apply Kd.V_alloc | apply Kd.V_drewN | apply Kd.V_drew)); exact Kd.V_mono HL309_1.out (fun _ hk => ⟨⟨hk.1.1, hk.2⟩, hk.1.2⟩)) hg hat); have n2_ := Aside0.mk (hb); have n3_ := Aside0.mk (ho); clear HO0; clear HL309_1; clear HB; clear HO308; clear HO320; have HO0 := n0_; have HL309_1 := n1_; have HB := n2_; have HO323 := n3_; clear n0_ n1_ n2_ n3_; clear ho hb hg hat))
              go_ret
              exact ⟨_, by first | rfl | (simp [errW_none, errW_some] <;> rfl) | (simp only [← hji5]; first | rfl | (simp [errW_none, errW_some] <;> rfl)) | (simp [*, errW_none, errW_some] <;> rfl), by (with_reducible repeat (first | apply Kd.N_alloc | apply Kd.N_drewN | apply Kd.N_drew)); exact HO323.out, by repeat (first | (with_reducible first | exact HB.out | apply below_alloc | apply pw_below_drewN | apply below_drew1) | exact HB.out)⟩
            · rw [if_neg c19] at H
              exact absurd H (by simp)
        · rw [if_neg c7] at H
          exact absurd H (by simp)
      · rw [if_neg c6] at H
        exact absurd H (by simp)
    · rw [if_neg c4] at H
      have c4b0 : decide (0 < (y306.length : Int)) = false := decide_eq_false c4
      have c4b1 : decide (0 < y306.length) = false := decide_eq_false (by omega)
      clear c4
      obtain ⟨y324, hy324⟩ : ∃ y_ : List Int, y_ = (([a1] : List Int)) := ⟨_, rfl⟩
      replace H : (if y306.length < 3518437208883 then (some (y306 ++ [(⟨1, y324, 0⟩ : S49)])) else (none)) = some r := by first | (rw [hy324]; with_reducible exact H) | (have H2_ := (Option.bind_some _ _).symm.trans H; rw [hy324]; with_reducible exact H2_) | (have H2_ := (Option.bind_some _ _).symm.trans H; with_reducible exact H2_) | with_reducible exact H | (rw [hy324]; exact H) | exact H
      have Ny324 := Aside0.mk hy324
      clear hy324
      by_cases c26 : y306.length < 3518437208883
      · rw [if_pos c26] at H
        have LMc26 := Aside0.mk c26
        clear c26
        obtain ⟨y327, hy327⟩ : ∃ y_ : List (S49), y_ = (y306 ++ [(⟨1, y324, 0⟩ : S49)]) := ⟨_, rfl⟩
        replace H : (some y327) = some r := by first | (rw [hy327]; with_reducible exact H) | (have H2_ := (Option.bind_some _ _).symm.trans H; rw [hy327]; with_reducible exact H2_) | (have H2_ := (Option.bind_some _ _).symm.trans H; with_reducible exact H2_) | with_reducible exact H | (rw [hy327]; exact H) | exact H
        have Ny327 := Aside0.mk hy327
        clear hy327
        obtain rfl := Option.some.inj H
        go_enter Try.func26, Try.ntmps26
        go_wp2_with (first | ((with_reducible refine gate_builtin (b := .append) (xs := #[.tmp 8, .tmp 9]) rfl ?_); at_builtin; refine Kd.N_append_rows k49 (w0 := w) w.heap.size rfl (.tmp 8) (.tmp 9) 38 49 (.agg #[(.int .u8 0), (.slice none 0 0), (.int .i64 0)]) 40 rfl Try.underlying38 info49 rfl (by decide) (by omega) (.slice none 0 0) ([] : List (S49)) l0 _ _ _ (fun k_ => (P0_ k_ ∨ w.heap.size ≤ k_)) (fun k_ => ((fun k_ => (P0_ k_ ∨ w.heap.size ≤ k_))) k_ ∧ some k_ ≠ (.slice none 0 0 : Value).ownBlock) rfl rfl ?aO ?aR (fun _ hk => hk) ?aF ?aB ?aS ?aL ?_; (case aR => exact (by skip; exact Kd.V_F (Kd.V_mono (ok' := (fun k_ => ((fun k_ => (P0_ k_ ∨ w.heap.size ≤ k_))) k_ ∧ some k_ ≠ (.slice none 0 0 : Value).ownBlock)) (HO0.out) (fun k_ hk => ⟨hk, (by simp [Value.ownBlock])⟩)))); (case aB => exact (by repeat (first | (with_reducible first | exact HB.out | apply below_alloc | apply pw_below_drewN | apply below_drew1) | exact HB.out))); (case aF => exact (fun k_ hk => (.inr (Nat.le_trans (below_size (by repeat (first | (with_reducible first | exact HB.out | apply below_alloc | apply pw_below_drewN | apply below_drew1) | exact HB.out))) hk)))); (case aO => exact ((Kd.N_nil _ _ _ _ (fun k_ => (P0_ k_ ∨ w.heap.size ≤ k_))))); (case aS => exact (below_size (by repeat (first | (with_reducible first | exact HB.out | apply below_alloc | apply pw_below_drewN | apply below_drew1) | exact HB.out)))); (case aL => have := LMc3.out; omega); intro v307 w27 ho hb hg hat; rw [← Ny306.out] at ho; have n0_ := Aside0.mk (Kd.V_afterv (Kd.V_apart_nil (by (with_reducible repeat (first | apply Kd.V_alloc | apply Kd.V_drewN | apply Kd.V_drew)); exact HO0.out)) hg hat); have n1_ := Aside0.mk (hb); have n2_ := Aside0.mk (ho); clear HO0; clear HB; have HO0 := n0_; have HB := n1_; have HO308 := n2_; clear n0_ n1_ n2_; clear ho hb hg hat; obtain ⟨Ao28, co28, eo28⟩ := Kd.N_slice HO308.out; subst eo28) | ((with_reducible refine gate_dst (N := 45) rfl ?_); refine Kd.R_lit (Kd.int .i32) _ 24 ?hg (N := 45) ?hd (xs := ([a1] : List Int)) (inner := [.int .i32 a1]) (ok := fun _ => True) (okp := fun _ => True) ?hr ?hp (fun _ hk => hk) trivial (Below.refl _ _) (Nat.le_refl _) (by simp) ?_; (case hd => rfl); (case hg => rfl); (case hr => first | (go_simp; done) | (go_simp; rfl)); (case hp => exact (Reps.one (show Kd.M (Kd.int .i32) _ _ _ a1 [.int .i32 a1] from rfl) (Reps.none _ _))); intro v325 w29 ho30 hb hg_ hnew_; clear hg_ hnew_; (first | rw [← Ny324.out] at ho30 | (simp only [Int.reduceToNat] at ho30; rw [← Ny324.out] at ho30)); have n0_ := Aside0.mk (Kd.V_elder' (by (with_reducible repeat (first | apply Kd.V_alloc | apply Kd.V_drewN | apply Kd.V_drew)); exact HO0.out) (Kd.R_base ho30) hb); have n1_ := Aside0.mk (Kd.N_elder' (by (with_reducible repeat (first | apply Kd.N_alloc | apply Kd.N_drewN | apply Kd.N_drew)); exact HO308.out) (Kd.R_base ho30) hb); have n2_ := Aside0.mk (Kd.R_lower (Kd.R_newM (M := fun k_ => (w.heap.size ≤ k_)) ho30 (below_size (by repeat (first | (with_reducible first | exact HB.out | apply below_alloc | apply pw_below_drewN | apply below_drew1) | exact HB.out))) (fun k_ h_ => h_)) (below_size (by repeat (first | (with_reducible first | exact HB.out | apply below_alloc | apply pw_below_drewN | apply below_drew1) | exact HB.out)))); have n3_ := Aside0.mk (below_step (by repeat (first | (with_reducible first | exact HB.out | apply below_alloc | apply pw_below_drewN | apply below_drew1) | exact HB.out)) hb); clear HO0; clear HO308; clear HB; have HO0 := n0_; have HO308 := n1_; have HO326 := n2_; have HB := n3_; clear n0_ n1_ n2_ n3_; clear hb ho30; obtain ⟨Ao31, co31, eo31⟩ := Kd.R_slice HO326.out; subst eo31) | ((with_reducible refine gate_builtin (b := .append) (xs := #[.tmp 43, .tmp 47]) rfl ?_); at_builtin; refine Kd.N_append k49 (w0 := w) w.heap.size rfl (.tmp 43) (.tmp 47) 38 49 (.agg #[(.int .u8 0), (.slice none 0 0), (.int .i64 0)]) 40 rfl Try.underlying38 info49 rfl (by decide) (by omega) (.slice Ao28 y306.length co28) y306 (⟨1, y324, 0⟩ : S49) [.int .u8 1, .slice Ao31 y324.length co31, .int .i64 0] (fun k_ => (P0_ k_ ∨ w.heap.size ≤ k_)) (fun k_ => ((fun k_ => (P0_ k_ ∨ w.heap.size ≤ k_))) k_ ∧ some k_ ≠ (.slice Ao28 y306.length co28 : Value).ownBlock) rfl rfl ?aP (fun _ hk => hk) ?aF ?aO ?aB ?aS ?aL ?_; (case aP => exact (k49_mkF _ _ (⟨1, y324, 0⟩ : S49) (Kd.R_reads' (Kd.R_mono (ok' := (fun k_ => ((fun k_ => (P0_ k_ ∨ w.heap.size ≤ k_))) k_ ∧ some k_ ≠ (.slice Ao28 y306.length co28 : Value).ownBlock)) (Kd.R_apart' (HO326.out) (Kd.N_typed HO308.out) (by decide)) (fun k_ hk => ⟨(.inr (hk.1.1)), hk.2⟩))).2.1 (Kd.R_F (Kd.R_mono (ok' := (fun k_ => ((fun k_ => (P0_ k_ ∨ w.heap.size ≤ k_))) k_ ∧ some k_ ≠ (.slice Ao28 y306.length co28 : Value).ownBlock)) (Kd.R_apart' (HO326.out) (Kd.N_typed HO308.out) (by decide)) (fun k_ hk => ⟨(.inr (hk.1.1)), hk.2⟩))))); (case aB => exact (by repeat (first | (with_reducible first | exact HB.out | apply below_alloc | apply pw_below_drewN | apply below_drew1) | exact HB.out))); (case aF => exact (fun k_ hk => (.inr (Nat.le_trans (below_size (by repeat (first | (with_reducible first | exact HB.out | apply below_alloc | apply pw_below_drewN | apply below_drew1) | exact HB.out))) hk)))); (case aO => exact (by (with_reducible repeat (first | apply Kd.N_alloc | apply Kd.N_drewN | apply Kd.N_drew)); exact Kd.N_mono HO308.out (fun _ hk => hk.1))); (case aS => exact (below_size (by repeat (first | (with_reducible first | exact HB.out | apply below_alloc | apply pw_below_drewN | apply below_drew1) | exact HB.out)))); (case aL => have := LMc26.out; omega); intro v328 w32 ho hb hg hat; rw [← Ny327.out] at ho; have n0_ := Aside0.mk (Kd.V_afterv (ok := (fun k_ => (P0_ k_ ∨ w.heap.size ≤ k_) ∧ some k_ ≠ (.slice Ao31 y324.length co31 : Value).ownBlock)) (by (with_reducible repeat (first | apply Kd.V_alloc | apply Kd.V_drewN | apply Kd.V_drew)); exact Kd.V_mono HO0.out (fun _ hk => ⟨⟨hk.1.1, hk.2⟩, hk.1.2⟩)) hg hat); have n1_ := Aside0.mk (hb); have n2_ := Aside0.mk (ho); clear HO0; clear HB; clear HO308; clear HO326; have HO0 := n0_; have HB := n1_; have HO329 := n2_; clear n0_ n1_ n2_; clear ho hb hg hat))
        go_ret
        exact ⟨_, by first | rfl | (simp [errW_none, errW_some] <;> rfl) | (simp [*, errW_none, errW_some] <;> rfl), by (with_reducible repeat (first | apply Kd.N_alloc | apply Kd.N_drewN | apply Kd.N_drew)); exact HO329.out, by repeat (first | (with_reducible first | exact HB.out | apply below_alloc | apply pw_below_drewN | apply below_drew1) | exact HB.out)⟩
      · rw [if_neg c26] at H
        exact absurd H (by simp)
  · rw [if_neg c3] at H
    exact absurd H (by simp)

end Go.Proofs.Ytfgccmgfkfhfcaa.PAll
