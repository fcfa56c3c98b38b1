/- Written for this seat by a program of this session (wip/tools/pp.py): Lean functions with the same answers as the Go functions, and the proofs that they are. Lean checks it. -/
import Derived.Test.YtfgccmgfkfhfcaaPAllx0
import Derived.Test.YtfgccmgfkfhfcaaPAllx3
import Derived.Test.YtfgccmgfkfhfcaaPAllx5
import Derived.Test.YtfgccmgfkfhfcaaPAllx6
import Derived.Test.YtfgccmgfkfhfcaaPAllx8
import Derived.Test.YtfgccmgfkfhfcaaPAllx9
namespace Go.Proofs.Ytfgccmgfkfhfcaa.PAll
open Go.RowKit Go.Proofs.YtfgccmgfkfhfcaaW.PrintWords Go.Proofs.YtfgccmgfkfhfcaaW.PrintLast Go.Proofs.YtfgccmgfkfhfcaaW.PrintMore
attribute [local go_sem] max2_int min2_int max_two min_two max_three min_three max_four min_four   -- for this text's walks alone
set_option linter.unusedVariables false
set_option linter.unusedSimpArgs false

/-! ### redactorlaw14_SubstExpands: function 7 -/
mutual
def redactorlaw14_SubstExpands.l0 : Nat → List (S49) → List Int → List (S44) → List Int → List Int → Int → Int → Option (Bool)
  | 0, _, _, _, _, _, _, _ => none
  | k + 1, x0, x1, x2, x3, x4, x11, x12 => if x12 < (x0.length : Int) then (if 0 ≤ x12 then (redactorlaw14_SubstExpands.l0 k x0 x1 x2 x3 x4 (wrap64 (x11 + (wrap64 (1 + (((rd_T49 x0 x12).f1).length : Int))))) (wrap64 (x12 + 1))) else (none)) else (if x11 > 300 then (redactorlaw14_SubstExpands.j1 k x0 x1 x2 x3 x4 true) else ((redactorlaw14_known.f k).bind fun t371 => (redactorlaw14_SubstExpands.j1 k x0 x1 x2 x3 x4 (!t371))))
def redactorlaw14_SubstExpands.j1 : Nat → List (S49) → List Int → List (S44) → List Int → List Int → Bool → Option (Bool)
  | 0, _, _, _, _, _, _ => none
  | k + 1, x0, x1, x2, x3, x4, x44 => if x44 = true then ((redactorlaw14_known.f k).bind fun t372 => (some t372)) else ((redactorlaw01_Cells.f k x4).bind fun t373 => (if t373.length < 35184372088832 then ((some (t373 ++ [47] : List Int)).bind fun y376 => ((redactorlaw14_Text.f k x3).bind fun t379 => ((redactorref14_Parse.f k t379 0 (-999) 9).bind fun bt382 => ((some (([(⟨0, (y376.length : Int)⟩ : S44), (⟨wrap64 ((y376.length : Int) / 2), (y376.length : Int)⟩ : S44), (⟨(-1), (-1)⟩ : S44)] : List (S44)) : List (S44))).bind fun y388 => (if bt382.2.2.1 = 0 then (redactorlaw14_SubstExpands.j2 k x0 x1 x2 y376 bt382.1 y388) else (redactorlaw14_SubstExpands.j2 k x0 x1 x2 y376 (([(⟨2, ([] : List Int), 1⟩ : S49), (⟨1, y376, 0⟩ : S49), (⟨2, ([] : List Int), 7⟩ : S49)] : List (S49))) y388)))))) else (none)))
def redactorlaw14_SubstExpands.j2 : Nat → List (S49) → List Int → List (S44) → List Int → List (S49) → List (S44) → Option (Bool)
  | 0, _, _, _, _, _, _ => none
  | k + 1, x0, x1, x2, x13, x14, x18 => (subst_Expand.f k x0 x1 x2).bind fun t394 => ((redactorref14_Expand.f k x0 x1 x2).bind fun t397 => ((redactorref01_Same.f k t394 t397).bind fun t400 => (if t400 = true then ((subst_Expand.f k x14 x13 x18).bind fun t401 => ((redactorref14_Expand.f k x14 x13 x18).bind fun t404 => ((redactorref01_Same.f k t401 t404).bind fun t407 => (some t407)))) else (some false))))
end
def redactorlaw14_SubstExpands.f (k : Nat) (l0 : List (S49)) (l1 : List Int) (l2 : List (S44)) (l3 : List Int) (l4 : List Int) : Option (Bool) := redactorlaw14_SubstExpands.l0 k l0 l1 l2 l3 l4 (wrap64 ((l1.length : Int) + (l2.length : Int))) 0
theorem redactorlaw14_SubstExpands.mono_l : ∀ k, (∀ y0 y1 y2 y3 y4 y5 y6, LeO (redactorlaw14_SubstExpands.l0 k y0 y1 y2 y3 y4 y5 y6) (redactorlaw14_SubstExpands.l0 (k + 1) y0 y1 y2 y3 y4 y5 y6)) ∧ (∀ y0 y1 y2 y3 y4 y5, LeO (redactorlaw14_SubstExpands.j1 k y0 y1 y2 y3 y4 y5) (redactorlaw14_SubstExpands.j1 (k + 1) y0 y1 y2 y3 y4 y5)) ∧ (∀ y0 y1 y2 y3 y4 y5, LeO (redactorlaw14_SubstExpands.j2 k y0 y1 y2 y3 y4 y5) (redactorlaw14_SubstExpands.j2 (k + 1) y0 y1 y2 y3 y4 y5))
  | 0 => ⟨fun _ _ _ _ _ _ _ r h => by simp [redactorlaw14_SubstExpands.l0] at h, fun _ _ _ _ _ _ r h => by simp [redactorlaw14_SubstExpands.j1] at h, fun _ _ _ _ _ _ r h => by simp [redactorlaw14_SubstExpands.j2] at h⟩
  | k + 1 => by
    obtain ⟨ih0, ih1, ih2⟩ := redactorlaw14_SubstExpands.mono_l k
    refine ⟨?_, ?_, ?_⟩
    · intro y0 y1 y2 y3 y4 y5 y6
      unfold redactorlaw14_SubstExpands.l0
      repeat' first
      | (with_reducible exact ih0 _ _ _ _ _ _ _)
      | (with_reducible exact ih1 _ _ _ _ _ _)
      | (with_reducible exact ih2 _ _ _ _ _ _)
      | (with_reducible exact redactorlaw01_Cells.mono _ _)
      | (with_reducible exact redactorlaw14_Text.mono _ _)
      | (with_reducible exact redactorlaw14_known.mono _)
      | (with_reducible exact redactorref01_Same.mono _ _ _)
      | (with_reducible exact redactorref14_Expand.mono _ _ _ _)
      | (with_reducible exact redactorref14_Parse.mono _ _ _ _ _)
      | (with_reducible exact subst_Expand.mono _ _ _ _)
      | (with_reducible exact LeO.refl _)
      | (with_reducible exact LeO.none _)
      | (with_reducible refine LeO.ite ?_ ?_)
      | (with_reducible refine LeO.bind ?_ (fun _ => ?_))
      | exact ih0 _ _ _ _ _ _ _
      | exact ih1 _ _ _ _ _ _
      | exact ih2 _ _ _ _ _ _
      | exact redactorlaw01_Cells.mono _ _
      | exact redactorlaw14_Text.mono _ _
      | exact redactorlaw14_known.mono _
      | exact redactorref01_Same.mono _ _ _
      | exact redactorref14_Expand.mono _ _ _ _
      | exact redactorref14_Parse.mono _ _ _ _ _
      | exact subst_Expand.mono _ _ _ _
      | exact LeO.none _
      | refine LeO.ite ?_ ?_
      | refine LeO.bind ?_ (fun _ => ?_)
    · intro y0 y1 y2 y3 y4 y5
      unfold redactorlaw14_SubstExpands.j1
      repeat' first
      | (with_reducible exact ih0 _ _ _ _ _ _ _)
      | (with_reducible exact ih1 _ _ _ _ _ _)
      | (with_reducible exact ih2 _ _ _ _ _ _)
      | (with_reducible exact redactorlaw01_Cells.mono _ _)
      | (with_reducible exact redactorlaw14_Text.mono _ _)
      | (with_reducible exact redactorlaw14_known.mono _)
      | (with_reducible exact redactorref01_Same.mono _ _ _)
      | (with_reducible exact redactorref14_Expand.mono _ _ _ _)
      | (with_reducible exact redactorref14_Parse.mono _ _ _ _ _)
      | (with_reducible exact subst_Expand.mono _ _ _ _)
      | (with_reducible exact LeO.refl _)
      | (with_reducible exact LeO.none _)
      | (with_reducible refine LeO.ite ?_ ?_)
      | (with_reducible refine LeO.bind ?_ (fun _ => ?_))
      | exact ih0 _ _ _ _ _ _ _
      | exact ih1 _ _ _ _ _ _
      | exact ih2 _ _ _ _ _ _
      | exact redactorlaw01_Cells.mono _ _
      | exact redactorlaw14_Text.mono _ _
      | exact redactorlaw14_known.mono _
      | exact redactorref01_Same.mono _ _ _
      | exact redactorref14_Expand.mono _ _ _ _
      | exact redactorref14_Parse.mono _ _ _ _ _
      | exact subst_Expand.mono _ _ _ _
      | exact LeO.none _
      | refine LeO.ite ?_ ?_
      | refine LeO.bind ?_ (fun _ => ?_)
    · intro y0 y1 y2 y3 y4 y5
      unfold redactorlaw14_SubstExpands.j2
      repeat' first
      | (with_reducible exact ih0 _ _ _ _ _ _ _)
      | (with_reducible exact ih1 _ _ _ _ _ _)
      | (with_reducible exact ih2 _ _ _ _ _ _)
      | (with_reducible exact redactorlaw01_Cells.mono _ _)
      | (with_reducible exact redactorlaw14_Text.mono _ _)
      | (with_reducible exact redactorlaw14_known.mono _)
      | (with_reducible exact redactorref01_Same.mono _ _ _)
      | (with_reducible exact redactorref14_Expand.mono _ _ _ _)
      | (with_reducible exact redactorref14_Parse.mono _ _ _ _ _)
      | (with_reducible exact subst_Expand.mono _ _ _ _)
      | (with_reducible exact LeO.refl _)
      | (with_reducible exact LeO.none _)
      | (with_reducible refine LeO.ite ?_ ?_)
      | (with_reducible refine LeO.bind ?_ (fun _ => ?_))
      | exact ih0 _ _ _ _ _ _ _
      | exact ih1 _ _ _ _ _ _
      | exact ih2 _ _ _ _ _ _
      | exact redactorlaw01_Cells.mono _ _
      | exact redactorlaw14_Text.mono _ _
      | exact redactorlaw14_known.mono _
      | exact redactorref01_Same.mono _ _ _
      | exact redactorref14_Expand.mono _ _ _ _
      | exact redactorref14_Parse.mono _ _ _ _ _
      | exact subst_Expand.mono _ _ _ _
      | exact LeO.none _
      | refine LeO.ite ?_ ?_
      | refine LeO.bind ?_ (fun _ => ?_)
theorem redactorlaw14_SubstExpands.mono : ∀ a0 a1 a2 a3 a4 k, LeO (redactorlaw14_SubstExpands.f k a0 a1 a2 a3 a4) (redactorlaw14_SubstExpands.f (k + 1) a0 a1 a2 a3 a4) := by
  intro a0 a1 a2 a3 a4 k
  obtain ⟨ih0, ih1, ih2⟩ := redactorlaw14_SubstExpands.mono_l k
  unfold redactorlaw14_SubstExpands.f
  repeat' first
      | (with_reducible exact ih0 _ _ _ _ _ _ _)
      | (with_reducible exact ih1 _ _ _ _ _ _)
      | (with_reducible exact ih2 _ _ _ _ _ _)
      | (with_reducible exact redactorlaw01_Cells.mono _ _)
      | (with_reducible exact redactorlaw14_Text.mono _ _)
      | (with_reducible exact redactorlaw14_known.mono _)
      | (with_reducible exact redactorref01_Same.mono _ _ _)
      | (with_reducible exact redactorref14_Expand.mono _ _ _ _)
      | (with_reducible exact redactorref14_Parse.mono _ _ _ _ _)
      | (with_reducible exact subst_Expand.mono _ _ _ _)
      | (with_reducible exact LeO.refl _)
      | (with_reducible exact LeO.none _)
      | (with_reducible refine LeO.ite ?_ ?_)
      | (with_reducible refine LeO.bind ?_ (fun _ => ?_))
      | exact ih0 _ _ _ _ _ _ _
      | exact ih1 _ _ _ _ _ _
      | exact ih2 _ _ _ _ _ _
      | exact redactorlaw01_Cells.mono _ _
      | exact redactorlaw14_Text.mono _ _
      | exact redactorlaw14_known.mono _
      | exact redactorref01_Same.mono _ _ _
      | exact redactorref14_Expand.mono _ _ _ _
      | exact redactorref14_Parse.mono _ _ _ _ _
      | exact subst_Expand.mono _ _ _ _
      | exact LeO.none _
      | refine LeO.ite ?_ ?_
      | refine LeO.bind ?_ (fun _ => ?_)
set_option maxHeartbeats 8000000 in
set_option maxRecDepth 100000 in
theorem redactorlaw14_SubstExpands.calls (k : Nat) (A0 : Option Addr) (c0 : Nat) (l0 : List (S49)) (A1 : Option Addr) (c1 : Nat) (l1 : List Int) (A2 : Option Addr) (c2 : Nat) (l2 : List (S44)) (A3 : Option Addr) (c3 : Nat) (l3 : List Int) (A4 : Option Addr) (c4 : Nat) (l4 : List Int) (r : Bool) (w : World) (hr0 : Kd.C k49 w A0 l0.length l0) (hc0 : l0.length ≤ c0) (hr1 : Kd.C (Kd.int .i32) w A1 l1.length l1) (hc1 : l1.length ≤ c1) (hr2 : Kd.C k44 w A2 l2.length l2) (hc2 : l2.length ≤ c2) (hr3 : Kd.C (Kd.int .u8) w A3 l3.length l3) (hc3 : l3.length ≤ c3) (hr4 : Kd.C (Kd.int .u8) w A4 l4.length l4) (hc4 : l4.length ≤ c4) (h : redactorlaw14_SubstExpands.f k l0 l1 l2 l3 l4 = some r) :
    Calls Try.prog 7 #[.slice A0 l0.length c0, .slice A1 l1.length c1, .slice A2 l2.length c2, .slice A3 l3.length c3, .slice A4 l4.length c4] w fun e w' => e = .returned (.bool r) ∧ Below w.heap.size w w' := by
  have hu44 := Try.underlying44
  have hu49 := Try.underlying49
  have HR0 := Aside0.mk hr0
  have HC0 := Aside0.mk hc0
  clear hr0 hc0
  have HR1 := Aside0.mk hr1
  have HC1 := Aside0.mk hc1
  clear hr1 hc1
  have HR2 := Aside0.mk hr2
  have HC2 := Aside0.mk hc2
  clear hr2 hc2
  have HR3 := Aside0.mk hr3
  have HC3 := Aside0.mk hc3
  clear hr3 hc3
  have HR4 := Aside0.mk hr4
  have HC4 := Aside0.mk hc4
  clear hr4 hc4
  have HB := Aside0.mk (Below.refl w.heap.size w)
  have H : (redactorlaw14_SubstExpands.l0 k l0 l1 l2 l3 l4 (wrap64 ((l1.length : Int) + (l2.length : Int))) 0) = some r := h
  clear h
  have H' := Aside0.mk H
  clear H
  go_enter Try.func7, Try.ntmps7
  go_wp2
  go_loopg [11, 12] k (fun kq v11 v12 w' => ∃ (x11_1 : Int) (x12_1 : Int), v11 = .int .i64 x11_1 ∧ v12 = .int .i64 x12_1 ∧ Aside0 (redactorlaw14_SubstExpands.l0 kq l0 l1 l2 l3 l4 x11_1 x12_1 = some r) ∧ Aside0 (kq ≤ k) ∧ Aside0 (Below w.heap.size w w'))
  case atStart => exact ⟨(wrap64 ((l1.length : Int) + (l2.length : Int))), (0), (by first | rfl | (simp; done) | (simp [*]; done)), (by first | rfl | (simp; done) | (simp [*]; done)), H', ⟨Nat.le_refl _⟩, ⟨by repeat (first | (with_reducible first | exact HB.out | apply below_alloc | apply pw_below_drewN | apply below_drew1) | exact HB.out)⟩⟩
  case round =>
    clear H'
    try clear c1
    try clear c2
    try clear p2
    try clear c3
    try clear c4
    obtain ⟨x11_1, x12_1, rfl, rfl, HA, HK1, HB⟩ := hrel
    cases gk with
    | zero => exact absurd HA.out (by simp [redactorlaw14_SubstExpands.l0])
    | succ k1 =>
      have H := HA.out
      clear HA
      simp only [redactorlaw14_SubstExpands.l0] at H
      by_cases c6 : x12_1 < (l0.length : Int)
      · rw [if_pos c6] at H
        have c6b0 : decide (x12_1 < (l0.length : Int)) = true := decide_eq_true c6
        clear c6
        by_cases c7 : 0 ≤ x12_1
        · rw [if_pos c7] at H
          have c7b0 : decide (0 ≤ x12_1) = true := decide_eq_true c7
          clear c7
          have H' := Aside0.mk H
          clear H
          have p370 : 0 ≤ (x12_1 : Int) := of_decide_eq_true (by first | (with_reducible assumption) | assumption)
          have q370 : x12_1 < (l0.length : Int) := of_decide_eq_true (by first | (with_reducible assumption) | assumption)
          obtain ⟨ad370, A370_1, c370_1, e370, hx370_0, hx370_1, hx370_2, hl370_1, hi370_1⟩ := at_T49 HR0.out x12_1 p370 q370
          cases e370
          replace hx370_0 := (HB.out.cell (World.block_lt_of_cell? w _ hx370_0)).trans hx370_0
          replace hx370_1 := (HB.out.cell (World.block_lt_of_cell? w _ hx370_1)).trans hx370_1
          replace hx370_2 := (HB.out.cell (World.block_lt_of_cell? w _ hx370_2)).trans hx370_2
          have HR370_1 := Aside0.mk hi370_1
          have HC370_1 := Aside0.mk hl370_1
          clear hi370_1 hl370_1
          replace p370 := eq_true p370
          replace q370 := eq_true q370
          go_wp2
          go_roundg k1
          case measure => have := HK1.out; omega
          case rel => exact ⟨(wrap64 (x11_1 + (wrap64 (1 + (((rd_T49 l0 x12_1).f1).length : Int))))), (wrap64 (x12_1 + 1)), (by first | rfl | (simp; done) | (simp [*]; done)), (by first | rfl | (simp; done) | (simp [*]; done)), H', ⟨by have := HK1.out; omega⟩, ⟨by repeat (first | (with_reducible first | exact HB.out | apply below_alloc | apply pw_below_drewN | apply below_drew1) | exact HB.out)⟩⟩
        · rw [if_neg c7] at H
          exact absurd H (by simp)
      · rw [if_neg c6] at H
        have c6b0 : decide (x12_1 < (l0.length : Int)) = false := decide_eq_false c6
        clear c6
        have HC8 := Aside0.mk H
        clear H
        go_upto_region 6 with (fail)
        go_cut [44] (fun v44 wc => ∃ (kq : Nat) (x44_7 : Bool), v44 = .bool x44_7 ∧ Aside0 (redactorlaw14_SubstExpands.j1 kq l0 l1 l2 l3 l4 x44_7 = some r) ∧ Aside0 (kq ≤ k1) ∧ Aside0 (Below w.heap.size w wc))
        case first =>
          have H := HC8.out
          clear HC8
          by_cases c9 : x11_1 > 300
          · rw [if_pos c9] at H
            have c9b0 : decide (300 < x11_1) = true := decide_eq_true c9
            clear c9
            (first | rw [c9b0] | (simp only [i64_w, i32_w]; rw [c9b0]) | skip)
            have H' := Aside0.mk H
            clear H
            go_wp2
            go_meet
            case rel => exact ⟨_, (true), (by first | rfl | (simp; done) | (simp [*]; done)), H', ⟨by have := HK1.out; first | omega | exact Nat.le_refl _⟩, ⟨by repeat (first | (with_reducible first | exact HB.out | apply below_alloc | apply pw_below_drewN | apply below_drew1) | exact HB.out)⟩⟩
          · rw [if_neg c9] at H
            have c9b0 : decide (300 < x11_1) = false := decide_eq_false c9
            clear c9
            (first | rw [c9b0] | (simp only [i64_w, i32_w]; rw [c9b0]) | skip)
            replace H := Option.bind_eq_some_iff.mp H
            obtain ⟨t371, A100, H⟩ := H
            replace H : (redactorlaw14_SubstExpands.j1 k1 l0 l1 l2 l3 l4 (!t371)) = some r := H
            have A10 := Aside0.mk A100
            clear A100
            have H' := Aside0.mk H
            clear H
            go_wp2_with (first | (go_at_call 11; (with_reducible refine (redactorlaw14_known.calls k1  t371 _ A10.out).mono ?_); rintro e w11 ⟨rfl, hb⟩; have n0_ := Aside0.mk (below_step (by repeat (first | (with_reducible first | exact HB.out | apply below_alloc | apply pw_below_drewN | apply below_drew1) | exact HB.out)) hb); clear HB; have HB := n0_; clear n0_; (try clear hb); (try clear hb2); (try clear hk); (try clear hi)))
            go_meet
            case rel => exact ⟨_, (!t371), (by first | rfl | (simp; done) | (simp [*]; done)), H', ⟨by have := HK1.out; first | omega | exact Nat.le_refl _⟩, ⟨by repeat (first | (with_reducible first | exact HB.out | apply below_alloc | apply pw_below_drewN | apply below_drew1) | exact HB.out)⟩⟩
        case rest =>
          clear HC8
          try clear c1
          try clear c2
          try clear p2
          try clear c3
          try clear p3
          try clear q3
          try clear hx3
          try clear c4
          try clear c6
          try clear c6b0
          try clear p6
          try clear c7
          try clear c7b0
          try clear c9
          try clear c9b0
          try clear hx370_0
          try clear hx370_1
          try clear hx370_2
          try clear p2
          try clear p370
          try clear q370
          obtain ⟨kq, x44_7, rfl, HA, HJ7, HB⟩ := hcut
          cases kq with
          | zero => exact absurd HA.out (by simp [redactorlaw14_SubstExpands.j1])
          | succ kj7 =>
            have H := HA.out
            clear HA
            simp only [redactorlaw14_SubstExpands.j1] at H
            by_cases c12 : x44_7 = true
            · subst c12
              have H1 : ((redactorlaw14_known.f kj7).bind fun t372 => (some t372)) = some r := by rw [if_pos rfl] at H; exact H
              clear H
              have H := H1
              clear H1
              replace H := Option.bind_eq_some_iff.mp H
              obtain ⟨t372, A130, H⟩ := H
              replace H : (some t372) = some r := H
              have A13 := Aside0.mk A130
              clear A130
              obtain rfl := Option.some.inj H
              go_wp2_with (first | ((with_reducible refine gate_callee (f := 11) rfl ?_); refine goesL_ (some 45) rfl rfl Try.func11 (by kernel_rfl) rfl #[] rfl (by (try simp only [List.map_toArray, List.map_cons, List.map_nil]); first | done | rfl | (simp only [List.length_drop, List.length_take]; rfl)) ?_; (with_reducible refine (redactorlaw14_known.calls kj7  t372 _ A13.out).mono ?_); rintro e w14 ⟨rfl, hb⟩; refine ⟨_, rfl, ?_⟩; have n0_ := Aside0.mk (below_step (by repeat (first | (with_reducible first | exact HB.out | apply below_alloc | apply pw_below_drewN | apply below_drew1) | exact HB.out)) hb); clear HB; have HB := n0_; clear n0_; (try clear hb); (try clear hb2); (try clear hk); (try clear hi)))
              go_ret
              exact ⟨by first | rfl | (simp [errW_none, errW_some] <;> rfl) | (simp [*, errW_none, errW_some] <;> rfl), by repeat (first | (with_reducible first | exact HB.out | apply below_alloc | apply pw_below_drewN | apply below_drew1) | exact HB.out)⟩
            · replace c12 := Bool.eq_false_iff.mpr c12
              subst c12
              have H1 : ((redactorlaw01_Cells.f kj7 l4).bind fun t373 => (if t373.length < 35184372088832 then ((some (t373 ++ [47] : List Int)).bind fun y376 => ((redactorlaw14_Text.f kj7 l3).bind fun t379 => ((redactorref14_Parse.f kj7 t379 0 (-999) 9).bind fun bt382 => ((some (([(⟨0, (y376.length : Int)⟩ : S44), (⟨wrap64 ((y376.length : Int) / 2), (y376.length : Int)⟩ : S44), (⟨(-1), (-1)⟩ : S44)] : List (S44)) : List (S44))).bind fun y388 => (if bt382.2.2.1 = 0 then (redactorlaw14_SubstExpands.j2 kj7 l0 l1 l2 y376 bt382.1 y388) else (redactorlaw14_SubstExpands.j2 kj7 l0 l1 l2 y376 (([(⟨2, ([] : List Int), 1⟩ : S49), (⟨1, y376, 0⟩ : S49), (⟨2, ([] : List Int), 7⟩ : S49)] : List (S49))) y388)))))) else (none))) = some r := by rw [if_neg (show ¬ (false = true) by decide)] at H; exact H
              clear H
              have H := H1
              clear H1
              replace H := Option.bind_eq_some_iff.mp H
              obtain ⟨t373, A150, H⟩ := H
              replace H : (if t373.length < 35184372088832 then ((some (t373 ++ [47] : List Int)).bind fun y376 => ((redactorlaw14_Text.f kj7 l3).bind fun t379 => ((redactorref14_Parse.f kj7 t379 0 (-999) 9).bind fun bt382 => ((some (([(⟨0, (y376.length : Int)⟩ : S44), (⟨wrap64 ((y376.length : Int) / 2), (y376.length : Int)⟩ : S44), (⟨(-1), (-1)⟩ : S44)] : List (S44)) : List (S44))).bind fun y388 => (if bt382.2.2.1 = 0 then (redactorlaw14_SubstExpands.j2 kj7 l0 l1 l2 y376 bt382.1 y388) else (redactorlaw14_SubstExpands.j2 kj7 l0 l1 l2 y376 (([(⟨2, ([] : List Int), 1⟩ : S49), (⟨1, y376, 0⟩ : S49), (⟨2, ([] : List Int), 7⟩ : S49)] : List (S49))) y388)))))) else (none)) = some r := H
              have A15 := Aside0.mk A150
              clear A150
              by_cases c16 : t373.length < 35184372088832
              · rw [if_pos c16] at H
                have LMc16 := Aside0.mk c16
                clear c16
                obtain ⟨y376, hy376⟩ : ∃ y_ : List Int, y_ = (t373 ++ [47]) := ⟨_, rfl⟩
                replace H : ((redactorlaw14_Text.f kj7 l3).bind fun t379 => ((redactorref14_Parse.f kj7 t379 0 (-999) 9).bind fun bt382 => ((some (([(⟨0, (y376.length : Int)⟩ : S44), (⟨wrap64 ((y376.length : Int) / 2), (y376.length : Int)⟩ : S44), (⟨(-1), (-1)⟩ : S44)] : List (S44)) : List (S44))).bind fun y388 => (if bt382.2.2.1 = 0 then (redactorlaw14_SubstExpands.j2 kj7 l0 l1 l2 y376 bt382.1 y388) else (redactorlaw14_SubstExpands.j2 kj7 l0 l1 l2 y376 (([(⟨2, ([] : List Int), 1⟩ : S49), (⟨1, y376, 0⟩ : S49), (⟨2, ([] : List Int), 7⟩ : S49)] : List (S49))) y388))))) = some r := by first | (rw [hy376]; with_reducible exact H) | (have H2_ := (Option.bind_some _ _).symm.trans H; rw [hy376]; with_reducible exact H2_) | (have H2_ := (Option.bind_some _ _).symm.trans H; with_reducible exact H2_) | with_reducible exact H | (rw [hy376]; exact H) | exact H
                have Ny376 := Aside0.mk hy376
                clear hy376
                replace H := Option.bind_eq_some_iff.mp H
                obtain ⟨t379, A170, H⟩ := H
                replace H : ((redactorref14_Parse.f kj7 t379 0 (-999) 9).bind fun bt382 => ((some (([(⟨0, (y376.length : Int)⟩ : S44), (⟨wrap64 ((y376.length : Int) / 2), (y376.length : Int)⟩ : S44), (⟨(-1), (-1)⟩ : S44)] : List (S44)) : List (S44))).bind fun y388 => (if bt382.2.2.1 = 0 then (redactorlaw14_SubstExpands.j2 kj7 l0 l1 l2 y376 bt382.1 y388) else (redactorlaw14_SubstExpands.j2 kj7 l0 l1 l2 y376 (([(⟨2, ([] : List Int), 1⟩ : S49), (⟨1, y376, 0⟩ : S49), (⟨2, ([] : List Int), 7⟩ : S49)] : List (S49))) y388)))) = some r := H
                have A17 := Aside0.mk A170
                clear A170
                replace H := Option.bind_eq_some_iff.mp H
                obtain ⟨⟨t382, t385, t386, t387⟩, A180, H⟩ := H
                replace H : ((some (([(⟨0, (y376.length : Int)⟩ : S44), (⟨wrap64 ((y376.length : Int) / 2), (y376.length : Int)⟩ : S44), (⟨(-1), (-1)⟩ : S44)] : List (S44)) : List (S44))).bind fun y388 => (if t386 = 0 then (redactorlaw14_SubstExpands.j2 kj7 l0 l1 l2 y376 t382 y388) else (redactorlaw14_SubstExpands.j2 kj7 l0 l1 l2 y376 (([(⟨2, ([] : List Int), 1⟩ : S49), (⟨1, y376, 0⟩ : S49), (⟨2, ([] : List Int), 7⟩ : S49)] : List (S49))) y388))) = some r := H
                have A18 := Aside0.mk A180
                clear A180
                obtain ⟨y388, hy388⟩ : ∃ y_ : List (S44), y_ = (([(⟨0, (y376.length : Int)⟩ : S44), (⟨wrap64 ((y376.length : Int) / 2), (y376.length : Int)⟩ : S44), (⟨(-1), (-1)⟩ : S44)] : List (S44))) := ⟨_, rfl⟩
                replace H : (if t386 = 0 then (redactorlaw14_SubstExpands.j2 kj7 l0 l1 l2 y376 t382 y388) else (redactorlaw14_SubstExpands.j2 kj7 l0 l1 l2 y376 (([(⟨2, ([] : List Int), 1⟩ : S49), (⟨1, y376, 0⟩ : S49), (⟨2, ([] : List Int), 7⟩ : S49)] : List (S49))) y388)) = some r := by first | (rw [hy388]; with_reducible exact H) | (have H2_ := (Option.bind_some _ _).symm.trans H; rw [hy388]; with_reducible exact H2_) | (have H2_ := (Option.bind_some _ _).symm.trans H; with_reducible exact H2_) | with_reducible exact H | (rw [hy388]; exact H) | exact H
                have Ny388 := Aside0.mk hy388
                clear hy388
                have HC19 := Aside0.mk H
                clear H
                go_upto_if 71 with (first | ((with_reducible refine gate_callee (f := 13) rfl ?_); refine goesL_ (some 47) rfl rfl Try.func13 (by kernel_rfl) rfl #[.slice A4 l4.length c4] rfl (by (try simp only [List.map_toArray, List.map_cons, List.map_nil]); first | done | rfl | (simp only [List.length_drop, List.length_take]; rfl)) ?_; (with_reducible refine (redactorlaw01_Cells.calls kj7 _ _ l4 t373 _ ?side1 ?side2 A15.out).mono ?_); (case side1 => repeat (first | exact (Kd.C_below HR4.out HB.out) | (with_reducible refine Kd.C_alloc ?_ _) | (with_reducible refine Kd.C_drewN ?_ _) | (with_reducible refine Kd.C_drew ?_))); (case side2 => exact HC4.out); rintro e w20 ⟨v374, rfl, ho0, hb⟩; refine ⟨_, rfl, ?_⟩; have n0_ := Aside0.mk (Kd.R_lower ho0 (below_size (by repeat (first | (with_reducible first | exact HB.out | apply below_alloc | apply pw_below_drewN | apply below_drew1) | exact HB.out)))); have n1_ := Aside0.mk (below_step (by repeat (first | (with_reducible first | exact HB.out | apply below_alloc | apply pw_below_drewN | apply below_drew1) | exact HB.out)) hb); clear HB; have HO375 := n0_; have HB := n1_; clear n0_ n1_; (try clear hb); (try clear hb2); (try clear hk); (try clear hi); (try clear ho0)) | ((with_reducible refine gate_builtin (b := .append) (xs := #[.tmp 48, .tmp 49]) rfl ?_); at_builtin; refine Kd.R_append (Kd.int .i32) (w0 := w) w.heap.size rfl (.tmp 48) (.tmp 49) 23 24 (.int .i32 0) 4 rfl Try.underlying23 info24 rfl (by decide) (by omega) v374 t373 47 [.int .i32 47] (fun _ => True) (fun _ => False) rfl rfl ?aP (fun _ hk => hk.elim) ?aF ?aO ?aB ?aS ?aL ?_; (case aP => exact rfl); (case aB => exact (by repeat (first | (with_reducible first | exact HB.out | apply below_alloc | apply pw_below_drewN | apply below_drew1) | exact HB.out))); (case aF => exact (fun _ _ => trivial)); (case aO => exact (by (with_reducible repeat (first | apply Kd.R_alloc | apply Kd.R_drewN | apply Kd.R_drew)); exact HO375.out)); (case aS => exact (below_size (by repeat (first | (with_reducible first | exact HB.out | apply below_alloc | apply pw_below_drewN | apply below_drew1) | exact HB.out)))); (case aL => have := LMc16.out; omega); intro v377 w21 ho hb hg hat; rw [← Ny376.out] at ho; have n0_ := Aside0.mk (hb); have n1_ := Aside0.mk (ho); clear HB; clear HO375; have HB := n0_; have HO378 := n1_; clear n0_ n1_; clear ho hb hg hat) | ((with_reducible refine gate_callee (f := 18) rfl ?_); refine goesL_ (some 53) rfl rfl Try.func18 (by kernel_rfl) rfl #[.slice A3 l3.length c3] rfl (by (try simp only [List.map_toArray, List.map_cons, List.map_nil]); first | done | rfl | (simp only [List.length_drop, List.length_take]; rfl)) ?_; (with_reducible refine (redactorlaw14_Text.calls kj7 _ _ l3 t379 _ ?side1 ?side2 A17.out).mono ?_); (case side1 => repeat (first | exact (Kd.C_below HR3.out HB.out) | (with_reducible refine Kd.C_alloc ?_ _) | (with_reducible refine Kd.C_drewN ?_ _) | (with_reducible refine Kd.C_drew ?_))); (case side2 => exact HC3.out); rintro e w22 ⟨v380, rfl, ho0, hb⟩; refine ⟨_, rfl, ?_⟩; have n0_ := Aside0.mk (Kd.R_elder' (by (with_reducible repeat (first | apply Kd.R_alloc | apply Kd.R_drewN | apply Kd.R_drew)); exact HO378.out) (Kd.R_base ho0) hb); have n1_ := Aside0.mk (Kd.R_lower (Kd.R_new' ho0 (Kd.R_lt (by (with_reducible repeat (first | apply Kd.R_alloc | apply Kd.R_drewN | apply Kd.R_drew)); exact HO378.out))) (below_size (by repeat (first | (with_reducible first | exact HB.out | apply below_alloc | apply pw_below_drewN | apply below_drew1) | exact HB.out)))); have n2_ := Aside0.mk (below_step (by repeat (first | (with_reducible first | exact HB.out | apply below_alloc | apply pw_below_drewN | apply below_drew1) | exact HB.out)) hb); clear HO378; clear HB; have HO378 := n0_; have HO381 := n1_; have HB := n2_; clear n0_ n1_ n2_; (try clear hb); (try clear hb2); (try clear hk); (try clear hi); (try clear ho0); obtain ⟨Ao23, co23, eo23⟩ := Kd.R_slice HO381.out; subst eo23) | ((with_reducible refine gate_callee (f := 17) rfl ?_); refine goesL_ (some 54) rfl rfl Try.func17 (by kernel_rfl) rfl #[.slice Ao23 t379.length co23, .int .i64 0, .int .i32 (-999), .int .i64 9] rfl (by (try simp only [List.map_toArray, List.map_cons, List.map_nil]); first | done | rfl | (simp only [List.length_drop, List.length_take]; rfl)) ?_; (with_reducible refine (redactorref14_Parse.calls kj7 _ _ t379 0 (-999) 9 t382 t385 t386 t387 _ ?side1 ?side2 A18.out).mono ?_); (case side1 => repeat (first | exact (Kd.R_reads' HO381.out).2.2 | (with_reducible refine Kd.C_alloc ?_ _) | (with_reducible refine Kd.C_drewN ?_ _) | (with_reducible refine Kd.C_drew ?_))); (case side2 => exact (Kd.R_reads' HO381.out).2.1); rintro e w24 ⟨v383, rfl, ho0, hb⟩; refine ⟨_, rfl, ?_⟩; have n0_ := Aside0.mk (Kd.R_below (by (with_reducible repeat (first | apply Kd.R_alloc | apply Kd.R_drewN | apply Kd.R_drew)); exact HO378.out) hb); have n1_ := Aside0.mk (Kd.R_below (by (with_reducible repeat (first | apply Kd.R_alloc | apply Kd.R_drewN | apply Kd.R_drew)); exact HO381.out) hb); have n2_ := Aside0.mk (Kd.N_lower (Kd.N_mono (ok' := fun k_ => some k_ ≠ (v377 : Value).ownBlock ∧ some k_ ≠ (.slice Ao23 t379.length co23 : Value).ownBlock) ho0 (fun k_ hk_ => ⟨(Kd.fresh' (Kd.R_lt (by (with_reducible repeat (first | apply Kd.R_alloc | apply Kd.R_drewN | apply Kd.R_drew)); exact HO378.out)) k_ hk_), (Kd.fresh' (Kd.R_lt (by (with_reducible repeat (first | apply Kd.R_alloc | apply Kd.R_drewN | apply Kd.R_drew)); exact HO381.out)) k_ hk_)⟩)) (below_size (by repeat (first | (with_reducible first | exact HB.out | apply below_alloc | apply pw_below_drewN | apply below_drew1) | exact HB.out)))); have n3_ := Aside0.mk (below_step (by repeat (first | (with_reducible first | exact HB.out | apply below_alloc | apply pw_below_drewN | apply below_drew1) | exact HB.out)) hb); clear HO378; clear HO381; clear HB; have HO378 := n0_; have HO381 := n1_; have HO384 := n2_; have HB := n3_; clear n0_ n1_ n2_ n3_; (try clear hb); (try clear hb2); (try clear hk); (try clear hi); (try clear ho0); obtain ⟨Ao25, co25, eo25⟩ := Kd.R_slice HO378.out; subst eo25) | ((with_reducible refine gate_dst (N := 69) rfl ?_); refine Kd.R_lit k44 _ 44 ?hg (N := 69) ?hd (xs := ([(⟨0, (y376.length : Int)⟩ : S44), (⟨wrap64 ((y376.length : Int) / 2), (y376.length : Int)⟩ : S44), (⟨(-1), (-1)⟩ : S44)] : List (S44))) (inner := [.int .i64 0, .int .i64 (y376.length : Int), .int .i64 (wrap64 ((y376.length : Int) / 2)), .int .i64 (y376.length : Int), .int .i64 (-1), .int .i64 (-1)]) (ok := fun _ => True) (okp := fun _ => True) ?hr ?hp (fun _ hk => hk) trivial (Below.refl _ _) (Nat.le_refl _) (by simp) ?_; (case hd => rfl); (case hg => rfl); (case hr => first | (go_simp; done) | (go_simp; rfl)); (case hp => exact (Reps.c2 (show Kd.M k44 _ _ _ (⟨0, (y376.length : Int)⟩ : S44) [.int .i64 0, .int .i64 (y376.length : Int)] from (k44_mkM _ _ _ (⟨0, (y376.length : Int)⟩ : S44) )) (Reps.c2 (show Kd.M k44 _ _ _ (⟨wrap64 ((y376.length : Int) / 2), (y376.length : Int)⟩ : S44) [.int .i64 (wrap64 ((y376.length : Int) / 2)), .int .i64 (y376.length : Int)] from (k44_mkM _ _ _ (⟨wrap64 ((y376.length : Int) / 2), (y376.length : Int)⟩ : S44) )) (Reps.c2 (show Kd.M k44 _ _ _ (⟨(-1), (-1)⟩ : S44) [.int .i64 (-1), .int .i64 (-1)] from (k44_mkM _ _ _ (⟨(-1), (-1)⟩ : S44) )) (Reps.none _ _))))); intro v389 w26 ho27 hb hg_ hnew_; clear hg_ hnew_; (first | rw [← Ny388.out] at ho27 | (simp only [Int.reduceToNat] at ho27; rw [← Ny388.out] at ho27)); have n0_ := Aside0.mk (Kd.R_below (by (with_reducible repeat (first | apply Kd.R_alloc | apply Kd.R_drewN | apply Kd.R_drew)); exact HO378.out) hb); have n1_ := Aside0.mk (Kd.R_below (by (with_reducible repeat (first | apply Kd.R_alloc | apply Kd.R_drewN | apply Kd.R_drew)); exact HO381.out) hb); have n2_ := Aside0.mk (Kd.N_elder' (by (with_reducible repeat (first | apply Kd.N_alloc | apply Kd.N_drewN | apply Kd.N_drew)); exact HO384.out) (Kd.R_base ho27) hb); have n3_ := Aside0.mk (Kd.R_lower ho27 (below_size (by repeat (first | (with_reducible first | exact HB.out | apply below_alloc | apply pw_below_drewN | apply below_drew1) | exact HB.out)))); have n4_ := Aside0.mk (below_step (by repeat (first | (with_reducible first | exact HB.out | apply below_alloc | apply pw_below_drewN | apply below_drew1) | exact HB.out)) hb); clear HO378; clear HO381; clear HO384; clear HB; have HO378 := n0_; have HO381 := n1_; have HO384 := n2_; have HO390 := n3_; have HB := n4_; clear n0_ n1_ n2_ n3_ n4_; clear hb ho27))
                (try simp only [Act.put, List.setIfInBounds_toArray, List.set_cons_zero, List.set_cons_succ])
                go_cut [14] (fun v14 wc => ∃ (kq : Nat) (x14_18 : List (S49)), Aside0 (redactorlaw14_SubstExpands.j2 kq l0 l1 l2 y376 x14_18 y388 = some r) ∧ Aside0 (kq ≤ kj7) ∧ Aside0 (Kd.R (Kd.int .i32) 24 wc w.heap.size (fun _ => True) (.slice Ao25 y376.length co25) y376) ∧ Aside0 (Kd.N k49 49 wc w.heap.size (fun k_ => some k_ ≠ (v389 : Value).ownBlock) v14 x14_18) ∧ Aside0 (Kd.R k44 44 wc w.heap.size (fun _ => True) v389 y388) ∧ Aside0 (Below w.heap.size w wc))
                case first =>
                  have H := HC19.out
                  clear HC19
                  by_cases c28 : t386 = 0
                  · rw [if_pos c28] at H
                    have c28b0 : (t386 == 0) = true := beq_iff_eq.mpr c28
                    have c28b1 : (t386 != 0) = false := bne_eq_false_iff_eq.mpr c28
                    clear c28
                    (first | rw [c28b0] | (simp only [i64_w, i32_w]; rw [c28b0]) | skip)
                    have H' := Aside0.mk H
                    clear H
                    go_wp2
                    go_meet
                    case rel => exact ⟨_, (t382), H', ⟨by have := HK1.out; have := HJ7.out; first | omega | exact Nat.le_refl _⟩, ⟨by (with_reducible repeat (first | apply Kd.R_alloc | apply Kd.R_drewN | apply Kd.R_drew)); exact Kd.R_mono HO378.out (fun _ hk => trivial)⟩, ⟨by (with_reducible repeat (first | apply Kd.N_alloc | apply Kd.N_drewN | apply Kd.N_drew)); exact Kd.N_mono HO384.out (fun _ hk => hk.2)⟩, ⟨by (with_reducible repeat (first | apply Kd.R_alloc | apply Kd.R_drewN | apply Kd.R_drew)); exact HO390.out⟩, ⟨by repeat (first | (with_reducible first | exact HB.out | apply below_alloc | apply pw_below_drewN | apply below_drew1) | exact HB.out)⟩⟩
                  · rw [if_neg c28] at H
                    have c28b0 : (t386 == 0) = false := beq_eq_false_iff_ne.mpr c28
                    have c28b1 : (t386 != 0) = true := bne_iff_ne.mpr c28
                    (first | rw [c28b0] | (simp only [i64_w, i32_w]; rw [c28b0]) | skip)
                    obtain ⟨y391, hy391⟩ : ∃ y_ : List (S49), y_ = (([(⟨2, ([] : List Int), 1⟩ : S49), (⟨1, y376, 0⟩ : S49), (⟨2, ([] : List Int), 7⟩ : S49)] : List (S49))) := ⟨_, rfl⟩
                    replace H : (redactorlaw14_SubstExpands.j2 kj7 l0 l1 l2 y376 y391 y388) = some r := by first | (rw [hy391]; with_reducible exact H) | (have H2_ := (Option.bind_some _ _).symm.trans H; rw [hy391]; with_reducible exact H2_) | (have H2_ := (Option.bind_some _ _).symm.trans H; with_reducible exact H2_) | with_reducible exact H | (rw [hy391]; exact H) | exact H
                    have Ny391 := Aside0.mk hy391
                    clear hy391
                    have H' := Aside0.mk H
                    clear H
                    go_wp2_with (first | ((with_reducible refine gate_dst (N := 76) rfl ?_); refine Kd.N_lit k49 _ 49 ?hg (N' := 76) ?hd (xs := ([(⟨2, ([] : List Int), 1⟩ : S49), (⟨1, y376, 0⟩ : S49), (⟨2, ([] : List Int), 7⟩ : S49)] : List (S49))) (inner := [.int .u8 2, .slice none 0 0, .int .i64 1, .int .u8 1, .slice Ao25 y376.length co25, .int .i64 0, .int .u8 2, .slice none 0 0, .int .i64 7]) (ok := (fun k_ => some k_ ≠ (.slice Ao23 t379.length co23 : Value).ownBlock ∧ some k_ ≠ (v383 : Value).ownBlock ∧ some k_ ≠ (v389 : Value).ownBlock)) (okp := (fun k_ => some k_ ≠ (.slice Ao23 t379.length co23 : Value).ownBlock ∧ some k_ ≠ (v383 : Value).ownBlock ∧ some k_ ≠ (v389 : Value).ownBlock)) ?hr ?hp (fun _ hk => hk) ((show ∀ k_, w26.heap.size ≤ k_ → (fun k_ => some k_ ≠ (.slice Ao23 t379.length co23 : Value).ownBlock ∧ some k_ ≠ (v383 : Value).ownBlock ∧ some k_ ≠ (v389 : Value).ownBlock) k_ from fun k_ hk => ⟨Kd.fresh' (Kd.R_lt (by (with_reducible repeat (first | apply Kd.R_alloc | apply Kd.R_drewN | apply Kd.R_drew)); exact HO381.out)) k_ hk, Kd.fresh' (Kd.N_lt (by (with_reducible repeat (first | apply Kd.N_alloc | apply Kd.N_drewN | apply Kd.N_drew)); exact HO384.out)) k_ hk, Kd.fresh' (Kd.R_lt (by (with_reducible repeat (first | apply Kd.R_alloc | apply Kd.R_drewN | apply Kd.R_drew)); exact HO390.out)) k_ hk⟩) _ (Nat.le_refl _)) (Below.refl _ _) (Nat.le_refl _) (by simp) ?_; (case hd => rfl); (case hg => rfl); (case hr => first | (go_simp; done) | (go_simp; rfl)); (case hp => exact (Reps.c3 (show Kd.FK k49 _ _ (⟨2, ([] : List Int), 1⟩ : S49) [.int .u8 2, .slice none 0 0, .int .i64 1] from (k49_mkF _ _ (⟨2, ([] : List Int), 1⟩ : S49) (Nat.le_refl _) (Kd.F_nil _ _ _))) (Reps.c3 (show Kd.FK k49 _ _ (⟨1, y376, 0⟩ : S49) [.int .u8 1, .slice Ao25 y376.length co25, .int .i64 0] from (k49_mkF _ _ (⟨1, y376, 0⟩ : S49) (Kd.R_reads' (Kd.R_mono (ok' := (fun k_ => some k_ ≠ (.slice Ao23 t379.length co23 : Value).ownBlock ∧ some k_ ≠ (v383 : Value).ownBlock ∧ some k_ ≠ (v389 : Value).ownBlock)) (Kd.R_apart' (Kd.R_apart' (HO378.out) (Kd.N_typed HO384.out) (by decide)) (Kd.R_typed HO390.out) (by decide)) (fun k_ hk => ⟨hk.1.1.2, ⟨hk.1.2, hk.2⟩⟩))).2.1 (Kd.R_F (Kd.R_mono (ok' := (fun k_ => some k_ ≠ (.slice Ao23 t379.length co23 : Value).ownBlock ∧ some k_ ≠ (v383 : Value).ownBlock ∧ some k_ ≠ (v389 : Value).ownBlock)) (Kd.R_apart' (Kd.R_apart' (HO378.out) (Kd.N_typed HO384.out) (by decide)) (Kd.R_typed HO390.out) (by decide)) (fun k_ hk => ⟨hk.1.1.2, ⟨hk.1.2, hk.2⟩⟩))))) (Reps.c3 (show Kd.FK k49 _ _ (⟨2, ([] : List Int), 7⟩ : S49) [.int .u8 2, .slice none 0 0, .int .i64 7] from (k49_mkF _ _ (⟨2, ([] : List Int), 7⟩ : S49) (Nat.le_refl _) (Kd.F_nil _ _ _))) (Reps.none _ _))))); intro v392 w29 ho30 hb hg_ hnew_; clear hg_ hnew_; (first | rw [← Ny391.out] at ho30 | (simp only [Int.reduceToNat] at ho30; rw [← Ny391.out] at ho30)); have n0_ := Aside0.mk (Kd.R_below (by (with_reducible repeat (first | apply Kd.R_alloc | apply Kd.R_drewN | apply Kd.R_drew)); exact HO381.out) hb); have n1_ := Aside0.mk (Kd.N_elder' (by (with_reducible repeat (first | apply Kd.N_alloc | apply Kd.N_drewN | apply Kd.N_drew)); exact HO384.out) (Kd.N_base ho30) hb); have n2_ := Aside0.mk (Kd.R_below (by (with_reducible repeat (first | apply Kd.R_alloc | apply Kd.R_drewN | apply Kd.R_drew)); exact HO390.out) hb); have n3_ := Aside0.mk (Kd.N_lower ho30 (below_size (by repeat (first | (with_reducible first | exact HB.out | apply below_alloc | apply pw_below_drewN | apply below_drew1) | exact HB.out)))); have n4_ := Aside0.mk (below_step (by repeat (first | (with_reducible first | exact HB.out | apply below_alloc | apply pw_below_drewN | apply below_drew1) | exact HB.out)) hb); have n5_ := Aside0.mk (Kd.R_below (by (with_reducible repeat (first | apply Kd.R_alloc | apply Kd.R_drewN | apply Kd.R_drew)); exact HO378.out) hb); clear HO381; clear HO384; clear HO390; clear HB; clear HO378; have HO378 := n5_; have HO381 := n0_; have HO384 := n1_; have HO390 := n2_; have HO393 := n3_; have HB := n4_; clear n0_ n1_ n2_ n3_ n4_ n5_; clear hb ho30))
                    go_meet
                    case rel => exact ⟨_, (y391), H', ⟨by have := HK1.out; have := HJ7.out; first | omega | exact Nat.le_refl _⟩, ⟨by (with_reducible repeat (first | apply Kd.R_alloc | apply Kd.R_drewN | apply Kd.R_drew)); exact Kd.R_mono HO378.out (fun _ _ => trivial)⟩, ⟨by (with_reducible repeat (first | apply Kd.N_alloc | apply Kd.N_drewN | apply Kd.N_drew)); exact Kd.N_mono HO393.out (fun _ hk => hk.2.2)⟩, ⟨by (with_reducible repeat (first | apply Kd.R_alloc | apply Kd.R_drewN | apply Kd.R_drew)); exact HO390.out⟩, ⟨by repeat (first | (with_reducible first | exact HB.out | apply below_alloc | apply pw_below_drewN | apply below_drew1) | exact HB.out)⟩⟩
                case rest =>
                  clear HC19
                  try clear c1
                  try clear c2
                  try clear p2
                  try clear c3
                  try clear p3
                  try clear q3
                  try clear hx3
                  try clear c4
                  try clear c6
                  try clear c6b0
                  try clear p6
                  try clear c7
                  try clear c7b0
                  try clear c9
                  try clear c9b0
                  try clear c11
                  try clear c12
                  try clear c13
                  try clear c16
                  try clear c17
                  try clear c18
                  try clear c28
                  try clear c28b0
                  try clear c28b1
                  try clear hx370_0
                  try clear hx370_1
                  try clear hx370_2
                  try clear p2
                  try clear p3
                  try clear p370
                  try clear p6
                  try clear q3
                  try clear q370
                  obtain ⟨kq, x14_18, HA, HJ18, HO_13, HO_14, HO_18, HB⟩ := hcut
                  cases kq with
                  | zero => exact absurd HA.out (by simp [redactorlaw14_SubstExpands.j2])
                  | succ kj18 =>
                    have H := HA.out
                    clear HA
                    simp only [redactorlaw14_SubstExpands.j2] at H
                    replace H := Option.bind_eq_some_iff.mp H
                    obtain ⟨t394, A310, H⟩ := H
                    replace H : ((redactorref14_Expand.f kj18 l0 l1 l2).bind fun t397 => ((redactorref01_Same.f kj18 t394 t397).bind fun t400 => (if t400 = true then ((subst_Expand.f kj18 x14_18 y376 y388).bind fun t401 => ((redactorref14_Expand.f kj18 x14_18 y376 y388).bind fun t404 => ((redactorref01_Same.f kj18 t401 t404).bind fun t407 => (some t407)))) else (some false)))) = some r := H
                    have A31 := Aside0.mk A310
                    clear A310
                    replace H := Option.bind_eq_some_iff.mp H
                    obtain ⟨t397, A320, H⟩ := H
                    replace H : ((redactorref01_Same.f kj18 t394 t397).bind fun t400 => (if t400 = true then ((subst_Expand.f kj18 x14_18 y376 y388).bind fun t401 => ((redactorref14_Expand.f kj18 x14_18 y376 y388).bind fun t404 => ((redactorref01_Same.f kj18 t401 t404).bind fun t407 => (some t407)))) else (some false))) = some r := H
                    have A32 := Aside0.mk A320
                    clear A320
                    replace H := Option.bind_eq_some_iff.mp H
                    obtain ⟨t400, A330, H⟩ := H
                    replace H : (if t400 = true then ((subst_Expand.f kj18 x14_18 y376 y388).bind fun t401 => ((redactorref14_Expand.f kj18 x14_18 y376 y388).bind fun t404 => ((redactorref01_Same.f kj18 t401 t404).bind fun t407 => (some t407)))) else (some false)) = some r := H
                    have A33 := Aside0.mk A330
                    clear A330
                    by_cases c34 : t400 = true
                    · subst c34
                      have H1 : ((subst_Expand.f kj18 x14_18 y376 y388).bind fun t401 => ((redactorref14_Expand.f kj18 x14_18 y376 y388).bind fun t404 => ((redactorref01_Same.f kj18 t401 t404).bind fun t407 => (some t407)))) = some r := by rw [if_pos rfl] at H; exact H
                      clear H
                      have H := H1
                      clear H1
                      replace H := Option.bind_eq_some_iff.mp H
                      obtain ⟨t401, A350, H⟩ := H
                      replace H : ((redactorref14_Expand.f kj18 x14_18 y376 y388).bind fun t404 => ((redactorref01_Same.f kj18 t401 t404).bind fun t407 => (some t407))) = some r := H
                      have A35 := Aside0.mk A350
                      clear A350
                      replace H := Option.bind_eq_some_iff.mp H
                      obtain ⟨t404, A360, H⟩ := H
                      replace H : ((redactorref01_Same.f kj18 t401 t404).bind fun t407 => (some t407)) = some r := H
                      have A36 := Aside0.mk A360
                      clear A360
                      replace H := Option.bind_eq_some_iff.mp H
                      obtain ⟨t407, A370, H⟩ := H
                      replace H : (some t407) = some r := H
                      have A37 := Aside0.mk A370
                      clear A370
                      obtain rfl := Option.some.inj H
                      go_wp2_with (first | ((with_reducible refine gate_callee (f := 16) rfl ?_); refine goesL_ (some 80) rfl rfl Try.func16 (by kernel_rfl) rfl #[.slice A0 l0.length c0, .slice A1 l1.length c1, .slice A2 l2.length c2] rfl (by (try simp only [List.map_toArray, List.map_cons, List.map_nil]); first | done | rfl | (simp only [List.length_drop, List.length_take]; rfl)) ?_; (with_reducible refine (subst_Expand.calls kj18 _ _ l0 _ _ l1 _ _ l2 t394 _ ?side1 ?side2 ?side3 ?side4 ?side5 ?side6 A31.out).mono ?_); (case side1 => repeat (first | exact (Kd.C_below HR0.out HB.out) | (with_reducible refine Kd.C_alloc ?_ _) | (with_reducible refine Kd.C_drewN ?_ _) | (with_reducible refine Kd.C_drew ?_))); (case side2 => exact HC0.out); (case side3 => repeat (first | exact (Kd.C_below HR1.out HB.out) | (with_reducible refine Kd.C_alloc ?_ _) | (with_reducible refine Kd.C_drewN ?_ _) | (with_reducible refine Kd.C_drew ?_))); (case side4 => exact HC1.out); (case side5 => repeat (first | exact (Kd.C_below HR2.out HB.out) | (with_reducible refine Kd.C_alloc ?_ _) | (with_reducible refine Kd.C_drewN ?_ _) | (with_reducible refine Kd.C_drew ?_))); (case side6 => exact HC2.out); rintro e w38 ⟨v395, rfl, ho0, hb⟩; refine ⟨_, rfl, ?_⟩; have n0_ := Aside0.mk (Kd.R_elder' (by (with_reducible repeat (first | apply Kd.R_alloc | apply Kd.R_drewN | apply Kd.R_drew)); exact HO_13.out) (Kd.R_base ho0) hb); have n1_ := Aside0.mk (Kd.N_elder' (by (with_reducible repeat (first | apply Kd.N_alloc | apply Kd.N_drewN | apply Kd.N_drew)); exact HO_14.out) (Kd.R_base ho0) hb); have n2_ := Aside0.mk (Kd.R_below (by (with_reducible repeat (first | apply Kd.R_alloc | apply Kd.R_drewN | apply Kd.R_drew)); exact HO_18.out) hb); have n3_ := Aside0.mk (Kd.R_lower (Kd.R_new' ho0 (Kd.R_lt (by (with_reducible repeat (first | apply Kd.R_alloc | apply Kd.R_drewN | apply Kd.R_drew)); exact HO_13.out))) (below_size (by repeat (first | (with_reducible first | exact HB.out | apply below_alloc | apply pw_below_drewN | apply below_drew1) | exact HB.out)))); have n4_ := Aside0.mk (below_step (by repeat (first | (with_reducible first | exact HB.out | apply below_alloc | apply pw_below_drewN | apply below_drew1) | exact HB.out)) hb); clear HO_13; clear HO_14; clear HO_18; clear HB; have HO_13 := n0_; have HO_14 := n1_; have HO_18 := n2_; have HO396 := n3_; have HB := n4_; clear n0_ n1_ n2_ n3_ n4_; (try clear hb); (try clear hb2); (try clear hk); (try clear hi); (try clear ho0)) | ((with_reducible refine gate_callee (f := 19) rfl ?_); refine goesL_ (some 84) rfl rfl Try.func19 (by kernel_rfl) rfl #[.slice A0 l0.length c0, .slice A1 l1.length c1, .slice A2 l2.length c2] rfl (by (try simp only [List.map_toArray, List.map_cons, List.map_nil]); first | done | rfl | (simp only [List.length_drop, List.length_take]; rfl)) ?_; (with_reducible refine (redactorref14_Expand.calls kj18 _ _ l0 _ _ l1 _ _ l2 t397 _ ?side1 ?side2 ?side3 ?side4 ?side5 ?side6 A32.out).mono ?_); (case side1 => repeat (first | exact (Kd.C_below HR0.out HB.out) | (with_reducible refine Kd.C_alloc ?_ _) | (with_reducible refine Kd.C_drewN ?_ _) | (with_reducible refine Kd.C_drew ?_))); (case side2 => exact HC0.out); (case side3 => repeat (first | exact (Kd.C_below HR1.out HB.out) | (with_reducible refine Kd.C_alloc ?_ _) | (with_reducible refine Kd.C_drewN ?_ _) | (with_reducible refine Kd.C_drew ?_))); (case side4 => exact HC1.out); (case side5 => repeat (first | exact (Kd.C_below HR2.out HB.out) | (with_reducible refine Kd.C_alloc ?_ _) | (with_reducible refine Kd.C_drewN ?_ _) | (with_reducible refine Kd.C_drew ?_))); (case side6 => exact HC2.out); rintro e w39 ⟨v398, rfl, ho0, hb⟩; refine ⟨_, rfl, ?_⟩; have n0_ := Aside0.mk (Kd.R_elder' (by (with_reducible repeat (first | apply Kd.R_alloc | apply Kd.R_drewN | apply Kd.R_drew)); exact HO_13.out) (Kd.R_base ho0) hb); have n1_ := Aside0.mk (Kd.N_elder' (by (with_reducible repeat (first | apply Kd.N_alloc | apply Kd.N_drewN | apply Kd.N_drew)); exact HO_14.out) (Kd.R_base ho0) hb); have n2_ := Aside0.mk (Kd.R_below (by (with_reducible repeat (first | apply Kd.R_alloc | apply Kd.R_drewN | apply Kd.R_drew)); exact HO_18.out) hb); have n3_ := Aside0.mk (Kd.R_elder' (by (with_reducible repeat (first | apply Kd.R_alloc | apply Kd.R_drewN | apply Kd.R_drew)); exact HO396.out) (Kd.R_base ho0) hb); have n4_ := Aside0.mk (Kd.R_lower (Kd.R_new' (Kd.R_new' ho0 (Kd.R_lt (by (with_reducible repeat (first | apply Kd.R_alloc | apply Kd.R_drewN | apply Kd.R_drew)); exact HO_13.out))) (Kd.R_lt (by (with_reducible repeat (first | apply Kd.R_alloc | apply Kd.R_drewN | apply Kd.R_drew)); exact HO396.out))) (below_size (by repeat (first | (with_reducible first | exact HB.out | apply below_alloc | apply pw_below_drewN | apply below_drew1) | exact HB.out)))); have n5_ := Aside0.mk (below_step (by repeat (first | (with_reducible first | exact HB.out | apply below_alloc | apply pw_below_drewN | apply below_drew1) | exact HB.out)) hb); clear HO_13; clear HO_14; clear HO_18; clear HO396; clear HB; have HO_13 := n0_; have HO_14 := n1_; have HO_18 := n2_; have HO396 := n3_; have HO399 := n4_; have HB := n5_; clear n0_ n1_ n2_ n3_ n4_ n5_; (try clear hb); (try clear hb2); (try clear hk); (try clear hi); (try clear ho0); obtain ⟨Ao40, co40, eo40⟩ := Kd.R_slice HO396.out; subst eo40; obtain ⟨Ao41, co41, eo41⟩ := Kd.R_slice HO399.out; subst eo41) | ((with_reducible refine gate_callee (f := 12) rfl ?_); refine goesL_ (some 85) rfl rfl Try.func12 (by kernel_rfl) rfl #[.slice Ao40 t394.length co40, .slice Ao41 t397.length co41] rfl (by (try simp only [List.map_toArray, List.map_cons, List.map_nil]); first | done | rfl | (simp only [List.length_drop, List.length_take]; rfl)) ?_; (with_reducible refine (redactorref01_Same.calls kj18 _ _ t394 _ _ t397 true _ ?side1 ?side2 ?side3 ?side4 A33.out).mono ?_); (case side1 => repeat (first | exact (Kd.R_reads' HO396.out).2.2 | (with_reducible refine Kd.C_alloc ?_ _) | (with_reducible refine Kd.C_drewN ?_ _) | (with_reducible refine Kd.C_drew ?_))); (case side2 => exact (Kd.R_reads' HO396.out).2.1); (case side3 => repeat (first | exact (Kd.R_reads' HO399.out).2.2 | (with_reducible refine Kd.C_alloc ?_ _) | (with_reducible refine Kd.C_drewN ?_ _) | (with_reducible refine Kd.C_drew ?_))); (case side4 => exact (Kd.R_reads' HO399.out).2.1); rintro e w' ⟨rfl, ⟨nd, rfl⟩⟩; refine ⟨_, rfl, ?_⟩; obtain ⟨Ao42, co42, eo42⟩ := Kd.N_slice HO_14.out; subst eo42; obtain ⟨Ao43, co43, eo43⟩ := Kd.R_slice HO_18.out; subst eo43) | (go_at_call 16; (with_reducible refine (subst_Expand.calls kj18 _ _ x14_18 _ _ y376 _ _ y388 t401 _ ?side1 ?side2 ?side3 ?side4 ?side5 ?side6 A35.out).mono ?_); (case side1 => repeat (first | exact (Kd.N_reads' HO_14.out).2.2 | (with_reducible refine Kd.C_alloc ?_ _) | (with_reducible refine Kd.C_drewN ?_ _) | (with_reducible refine Kd.C_drew ?_))); (case side2 => exact (Kd.N_reads' HO_14.out).2.1); (case side3 => repeat (first | exact (Kd.R_reads' HO_13.out).2.2 | (with_reducible refine Kd.C_alloc ?_ _) | (with_reducible refine Kd.C_drewN ?_ _) | (with_reducible refine Kd.C_drew ?_))); (case side4 => exact (Kd.R_reads' HO_13.out).2.1); (case side5 => repeat (first | exact (Kd.R_reads' HO_18.out).2.2 | (with_reducible refine Kd.C_alloc ?_ _) | (with_reducible refine Kd.C_drewN ?_ _) | (with_reducible refine Kd.C_drew ?_))); (case side6 => exact (Kd.R_reads' HO_18.out).2.1); rintro e w44 ⟨v402, rfl, ho0, hb⟩; have n0_ := Aside0.mk (Kd.R_elder' (by (with_reducible repeat (first | apply Kd.R_alloc | apply Kd.R_drewN | apply Kd.R_drew)); exact HO_13.out) (Kd.R_base ho0) hb); have n1_ := Aside0.mk (Kd.N_elder' (by (with_reducible repeat (first | apply Kd.N_alloc | apply Kd.N_drewN | apply Kd.N_drew)); exact HO_14.out) (Kd.R_base ho0) hb); have n2_ := Aside0.mk (Kd.R_below (by (with_reducible repeat (first | apply Kd.R_alloc | apply Kd.R_drewN | apply Kd.R_drew)); exact HO_18.out) hb); have n3_ := Aside0.mk (Kd.R_elder' (by (with_reducible repeat (first | apply Kd.R_alloc | apply Kd.R_drewN | apply Kd.R_drew)); exact HO396.out) (Kd.R_base ho0) hb); have n4_ := Aside0.mk (Kd.R_elder' (by (with_reducible repeat (first | apply Kd.R_alloc | apply Kd.R_drewN | apply Kd.R_drew)); exact HO399.out) (Kd.R_base ho0) hb); have n5_ := Aside0.mk (Kd.R_lower (Kd.R_new' (Kd.R_new' (Kd.R_new' ho0 (Kd.R_lt (by (with_reducible repeat (first | apply Kd.R_alloc | apply Kd.R_drewN | apply Kd.R_drew)); exact HO_13.out))) (Kd.R_lt (by (with_reducible repeat (first | apply Kd.R_alloc | apply Kd.R_drewN | apply Kd.R_drew)); exact HO396.out))) (Kd.R_lt (by (with_reducible repeat (first | apply Kd.R_alloc | apply Kd.R_drewN | apply Kd.R_drew)); exact HO399.out))) (below_size (by repeat (first | (with_reducible first | exact HB.out | apply below_alloc | apply pw_below_drewN | apply below_drew1) | exact HB.out)))); have n6_ := Aside0.mk (below_step (by repeat (first | (with_reducible first | exact HB.out | apply below_alloc | apply pw_below_drewN | apply below_drew1) | exact HB.out)) hb); clear HO_13; clear HO_14; clear HO_18; clear HO396; clear HO399; clear HB; have HO_13 := n0_; have HO_14 := n1_; have HO_18 := n2_; have HO396 := n3_; have HO399 := n4_; have HO403 := n5_; have HB := n6_; clear n0_ n1_ n2_ n3_ n4_ n5_ n6_; (try clear hb); (try clear hb2); (try clear hk); (try clear hi); (try clear ho0)) | (go_at_call 19; (with_reducible refine (redactorref14_Expand.calls kj18 _ _ x14_18 _ _ y376 _ _ y388 t404 _ ?side1 ?side2 ?side3 ?side4 ?side5 ?side6 A36.out).mono ?_); (case side1 => repeat (first | exact (Kd.N_reads' HO_14.out).2.2 | (with_reducible refine Kd.C_alloc ?_ _) | (with_reducible refine Kd.C_drewN ?_ _) | (with_reducible refine Kd.C_drew ?_))); (case side2 => exact (Kd.N_reads' HO_14.out).2.1); (case side3 => repeat (first | exact (Kd.R_reads' HO_13.out).2.2 | (with_reducible refine Kd.C_alloc ?_ _) | (with_reducible refine Kd.C_drewN ?_ _) | (with_reducible refine Kd.C_drew ?_))); (case side4 => exact (Kd.R_reads' HO_13.out).2.1); (case side5 => repeat (first | exact (Kd.R_reads' HO_18.out).2.2 | (with_reducible refine Kd.C_alloc ?_ _) | (with_reducible refine Kd.C_drewN ?_ _) | (with_reducible refine Kd.C_drew ?_))); (case side6 => exact (Kd.R_reads' HO_18.out).2.1); rintro e w45 ⟨v405, rfl, ho0, hb⟩; have n0_ := Aside0.mk (Kd.R_elder' (by (with_reducible repeat (first | apply Kd.R_alloc | apply Kd.R_drewN | apply Kd.R_drew)); exact HO_13.out) (Kd.R_base ho0) hb); have n1_ := Aside0.mk (Kd.N_elder' (by (with_reducible repeat (first | apply Kd.N_alloc | apply Kd.N_drewN | apply Kd.N_drew)); exact HO_14.out) (Kd.R_base ho0) hb); have n2_ := Aside0.mk (Kd.R_below (by (with_reducible repeat (first | apply Kd.R_alloc | apply Kd.R_drewN | apply Kd.R_drew)); exact HO_18.out) hb); have n3_ := Aside0.mk (Kd.R_elder' (by (with_reducible repeat (first | apply Kd.R_alloc | apply Kd.R_drewN | apply Kd.R_drew)); exact HO396.out) (Kd.R_base ho0) hb); have n4_ := Aside0.mk (Kd.R_elder' (by (with_reducible repeat (first | apply Kd.R_alloc | apply Kd.R_drewN | apply Kd.R_drew)); exact HO399.out) (Kd.R_base ho0) hb); have n5_ := Aside0.mk (Kd.R_elder' (by (with_reducible repeat (first | apply Kd.R_alloc | apply Kd.R_drewN | apply Kd.R_drew)); exact HO403.out) (Kd.R_base ho0) hb); have n6_ := Aside0.mk (Kd.R_lower (Kd.R_new' (Kd.R_new' (Kd.R_new' (Kd.R_new' ho0 (Kd.R_lt (by (with_reducible repeat (first | apply Kd.R_alloc | apply Kd.R_drewN | apply Kd.R_drew)); exact HO_13.out))) (Kd.R_lt (by (with_reducible repeat (first | apply Kd.R_alloc | apply Kd.R_drewN | apply Kd.R_drew)); exact HO396.out))) (Kd.R_lt (by (with_reducible repeat (first | apply Kd.R_alloc | apply Kd.R_drewN | apply Kd.R_drew)); exact HO399.out))) (Kd.R_lt (by (with_reducible repeat (first | apply Kd.R_alloc | apply Kd.R_drewN | apply Kd.R_drew)); exact HO403.out))) (below_size (by repeat (first | (with_reducible first | exact HB.out | apply below_alloc | apply pw_below_drewN | apply below_drew1) | exact HB.out)))); have n7_ := Aside0.mk (below_step (by repeat (first | (with_reducible first | exact HB.out | apply below_alloc | apply pw_below_drewN | apply below_drew1) | exact HB.out)) hb); clear HO_13; clear HO_14; clear HO_18; clear HO396; clear HO399; clear HO403; clear HB; have HO_13 := n0_; have HO_14 := n1_; have HO_18 := n2_; have HO396 := n3_; have HO399 := n4_; have HO403 := n5_; have HO406 := n6_; have HB := n7_; clear n0_ n1_ n2_ n3_ n4_ n5_ n6_ n7_; (try clear hb); (try clear hb2); (try clear hk); (try clear hi); (try clear ho0); obtain ⟨Ao46, co46, eo46⟩ := Kd.R_slice HO403.out; subst eo46; obtain ⟨Ao47, co47, eo47⟩ := Kd.R_slice HO406.out; subst eo47) | (go_at_call 12; (with_reducible refine (redactorref01_Same.calls kj18 _ _ t401 _ _ t404 t407 _ ?side1 ?side2 ?side3 ?side4 A37.out).mono ?_); (case side1 => repeat (first | exact (Kd.R_reads' HO403.out).2.2 | (with_reducible refine Kd.C_alloc ?_ _) | (with_reducible refine Kd.C_drewN ?_ _) | (with_reducible refine Kd.C_drew ?_))); (case side2 => exact (Kd.R_reads' HO403.out).2.1); (case side3 => repeat (first | exact (Kd.R_reads' HO406.out).2.2 | (with_reducible refine Kd.C_alloc ?_ _) | (with_reducible refine Kd.C_drewN ?_ _) | (with_reducible refine Kd.C_drew ?_))); (case side4 => exact (Kd.R_reads' HO406.out).2.1); rintro e w' ⟨rfl, ⟨nd, rfl⟩⟩))
                      go_ret
                      exact ⟨by first | rfl | (simp [errW_none, errW_some] <;> rfl) | (simp [*, errW_none, errW_some] <;> rfl), by repeat (first | (with_reducible first | exact HB.out | apply below_alloc | apply pw_below_drewN | apply below_drew1) | exact HB.out)⟩
                    · replace c34 := Bool.eq_false_iff.mpr c34
                      subst c34
                      have H1 : (some false) = some r := by rw [if_neg (show ¬ (false = true) by decide)] at H; exact H
                      clear H
                      have H := H1
                      clear H1
                      obtain rfl := Option.some.inj H
                      go_wp2_with (first | ((with_reducible refine gate_callee (f := 16) rfl ?_); refine goesL_ (some 80) rfl rfl Try.func16 (by kernel_rfl) rfl #[.slice A0 l0.length c0, .slice A1 l1.length c1, .slice A2 l2.length c2] rfl (by (try simp only [List.map_toArray, List.map_cons, List.map_nil]); first | done | rfl | (simp only [List.length_drop, List.length_take]; rfl)) ?_; (with_reducible refine (subst_Expand.calls kj18 _ _ l0 _ _ l1 _ _ l2 t394 _ ?side1 ?side2 ?side3 ?side4 ?side5 ?side6 A31.out).mono ?_); (case side1 => repeat (first | exact (Kd.C_below HR0.out HB.out) | (with_reducible refine Kd.C_alloc ?_ _) | (with_reducible refine Kd.C_drewN ?_ _) | (with_reducible refine Kd.C_drew ?_))); (case side2 => exact HC0.out); (case side3 => repeat (first | exact (Kd.C_below HR1.out HB.out) | (with_reducible refine Kd.C_alloc ?_ _) | (with_reducible refine Kd.C_drewN ?_ _) | (with_reducible refine Kd.C_drew ?_))); (case side4 => exact HC1.out); (case side5 => repeat (first | exact (Kd.C_below HR2.out HB.out) | (with_reducible refine Kd.C_alloc ?_ _) | (with_reducible refine Kd.C_drewN ?_ _) | (with_reducible refine Kd.C_drew ?_))); (case side6 => exact HC2.out); rintro e w48 ⟨v395, rfl, ho0, hb⟩; refine ⟨_, rfl, ?_⟩; have n0_ := Aside0.mk (Kd.R_elder' (by (with_reducible repeat (first | apply Kd.R_alloc | apply Kd.R_drewN | apply Kd.R_drew)); exact HO_13.out) (Kd.R_base ho0) hb); have n1_ := Aside0.mk (Kd.N_elder' (by (with_reducible repeat (first | apply Kd.N_alloc | apply Kd.N_drewN | apply Kd.N_drew)); exact HO_14.out) (Kd.R_base ho0) hb); have n2_ := Aside0.mk (Kd.R_below (by (with_reducible repeat (first | apply Kd.R_alloc | apply Kd.R_drewN | apply Kd.R_drew)); exact HO_18.out) hb); have n3_ := Aside0.mk (Kd.R_lower (Kd.R_new' ho0 (Kd.R_lt (by (with_reducible repeat (first | apply Kd.R_alloc | apply Kd.R_drewN | apply Kd.R_drew)); exact HO_13.out))) (below_size (by repeat (first | (with_reducible first | exact HB.out | apply below_alloc | apply pw_below_drewN | apply below_drew1) | exact HB.out)))); have n4_ := Aside0.mk (below_step (by repeat (first | (with_reducible first | exact HB.out | apply below_alloc | apply pw_below_drewN | apply below_drew1) | exact HB.out)) hb); clear HO_13; clear HO_14; clear HO_18; clear HB; have HO_13 := n0_; have HO_14 := n1_; have HO_18 := n2_; have HO396 := n3_; have HB := n4_; clear n0_ n1_ n2_ n3_ n4_; (try clear hb); (try clear hb2); (try clear hk); (try clear hi); (try clear ho0)) | ((with_reducible refine gate_callee (f := 19) rfl ?_); refine goesL_ (some 84) rfl rfl Try.func19 (by kernel_rfl) rfl #[.slice A0 l0.length c0, .slice A1 l1.length c1, .slice A2 l2.length c2] rfl (by (try simp only [List.map_toArray, List.map_cons, List.map_nil]); first | done | rfl | (simp only [List.length_drop, List.length_take]; rfl)) ?_; (with_reducible refine (redactorref14_Expand.calls kj18 _ _ l0 _ _ l1 _ _ l2 t397 _ ?side1 ?side2 ?side3 ?side4 ?side5 ?side6 A32.out).mono ?_); (case side1 => repeat (first | exact (Kd.C_below HR0.out HB.out) | (with_reducible refine Kd.C_alloc ?_ _) | (with_reducible refine Kd.C_drewN ?_ _) | (with_reducible refine Kd.C_drew ?_))); (case side2 => exact HC0.out); (case side3 => repeat (first | exact (Kd.C_below HR1.out HB.out) | (with_reducible refine Kd.C_alloc ?_ _) | (with_reducible refine Kd.C_drewN ?_ _) | (with_reducible refine Kd.C_drew ?_))); (case side4 => exact HC1.out); (case side5 => repeat (first | exact (Kd.C_below HR2.out HB.out) | (with_reducible refine Kd.C_alloc ?_ _) | (with_reducible refine Kd.C_drewN ?_ _) | (with_reducible refine Kd.C_drew ?_))); (case side6 => exact HC2.out); rintro e w49 ⟨v398, rfl, ho0, hb⟩; refine ⟨_, rfl, ?_⟩; have n0_ := Aside0.mk (Kd.R_elder' (by (with_reducible repeat (first | apply Kd.R_alloc | apply Kd.R_drewN | apply Kd.R_drew)); exact HO_13.out) (Kd.R_base ho0) hb); have n1_ := Aside0.mk (Kd.N_elder' (by (with_reducible repeat (first | apply Kd.N_alloc | apply Kd.N_drewN | apply Kd.N_drew)); exact HO_14.out) (Kd.R_base ho0) hb); have n2_ := Aside0.mk (Kd.R_below (by (with_reducible repeat (first | apply Kd.R_alloc | apply Kd.R_drewN | apply Kd.R_drew)); exact HO_18.out) hb); have n3_ := Aside0.mk (Kd.R_elder' (by (with_reducible repeat (first | apply Kd.R_alloc | apply Kd.R_drewN | apply Kd.R_drew)); exact HO396.out) (Kd.R_base ho0) hb); have n4_ := Aside0.mk (Kd.R_lower (Kd.R_new' (Kd.R_new' ho0 (Kd.R_lt (by (with_reducible repeat (first | apply Kd.R_alloc | apply Kd.R_drewN | apply Kd.R_drew)); exact HO_13.out))) (Kd.R_lt (by (with_reducible repeat (first | apply Kd.R_alloc | apply Kd.R_drewN | apply Kd.R_drew)); exact HO396.out))) (below_size (by repeat (first | (with_reducible first | exact HB.out | apply below_alloc | apply pw_below_drewN | apply below_drew1) | exact HB.out)))); have n5_ := Aside0.mk (below_step (by repeat (first | (with_reducible first | exact HB.out | apply below_alloc | apply pw_below_drewN | apply below_drew1) | exact HB.out)) hb); clear HO_13; clear HO_14; clear HO_18; clear HO396; clear HB; have HO_13 := n0_; have HO_14 := n1_; have HO_18 := n2_; have HO396 := n3_; have HO399 := n4_; have HB := n5_; clear n0_ n1_ n2_ n3_ n4_ n5_; (try clear hb); (try clear hb2); (try clear hk); (try clear hi); (try clear ho0); obtain ⟨Ao50, co50, eo50⟩ := Kd.R_slice HO396.out; subst eo50; obtain ⟨Ao51, co51, eo51⟩ := Kd.R_slice HO399.out; subst eo51) | ((with_reducible refine gate_callee (f := 12) rfl ?_); refine goesL_ (some 85) rfl rfl Try.func12 (by kernel_rfl) rfl #[.slice Ao50 t394.length co50, .slice Ao51 t397.length co51] rfl (by (try simp only [List.map_toArray, List.map_cons, List.map_nil]); first | done | rfl | (simp only [List.length_drop, List.length_take]; rfl)) ?_; (with_reducible refine (redactorref01_Same.calls kj18 _ _ t394 _ _ t397 false _ ?side1 ?side2 ?side3 ?side4 A33.out).mono ?_); (case side1 => repeat (first | exact (Kd.R_reads' HO396.out).2.2 | (with_reducible refine Kd.C_alloc ?_ _) | (with_reducible refine Kd.C_drewN ?_ _) | (with_reducible refine Kd.C_drew ?_))); (case side2 => exact (Kd.R_reads' HO396.out).2.1); (case side3 => repeat (first | exact (Kd.R_reads' HO399.out).2.2 | (with_reducible refine Kd.C_alloc ?_ _) | (with_reducible refine Kd.C_drewN ?_ _) | (with_reducible refine Kd.C_drew ?_))); (case side4 => exact (Kd.R_reads' HO399.out).2.1); rintro e w' ⟨rfl, ⟨nd, rfl⟩⟩; refine ⟨_, rfl, ?_⟩))
                      go_ret
                      exact ⟨by first | rfl | (simp [errW_none, errW_some] <;> rfl) | (simp [*, errW_none, errW_some] <;> rfl), by repeat (first | (with_reducible first | exact HB.out | apply below_alloc | apply pw_below_drewN | apply below_drew1) | exact HB.out)⟩
              · rw [if_neg c16] at H
                exact absurd H (by simp)

-- NOT PRINTED: function 8 (redactorlaw14_SubstPlain)

end Go.Proofs.Ytfgccmgfkfhfcaa.PAll
