/- Written for this seat by a program of this session (wip/tools/pp.py): Lean functions with the same answers as the Go functions, and the proofs that they are. Lean checks it. -/
import Derived.Test.YtfgccmgfkfhfcaaPAllx0
import Derived.Test.YtfgccmgfkfhfcaaPAllx3
import Derived.Test.YtfgccmgfkfhfcaaExtParse
import Derived.Test.YtfgccmgfkfhfcaaExtSpell
import Derived.Test.YtfgccmgfkfhfcaaExtMap
namespace Go.Proofs.Ytfgccmgfkfhfcaa.PAll
open Go.RowKit Go.Proofs.YtfgccmgfkfhfcaaW.PrintWords Go.Proofs.YtfgccmgfkfhfcaaW.PrintLast Go.Proofs.YtfgccmgfkfhfcaaW.PrintMore
attribute [local go_sem] max2_int min2_int max_two min_two max_three min_three max_four min_four   -- for this text's walks alone
set_option linter.unusedVariables false
set_option linter.unusedSimpArgs false

/-! ### redactorlaw01_Cells: function 13 -/
mutual
def redactorlaw01_Cells.l0 : Nat → List Int → List Int → Int → Option (List Int)
  | 0, _, _, _ => none
  | k + 1, x0, x3, x4 => if x4 < (x0.length : Int) then (redactorlaw01_Cells.j1 k x0 x3 x4 (decide (x4 < 60))) else (redactorlaw01_Cells.j1 k x0 x3 x4 false)
def redactorlaw01_Cells.j1 : Nat → List Int → List Int → Int → Bool → Option (List Int)
  | 0, _, _, _, _ => none
  | k + 1, x0, x3, x4, x13 => if x13 = true then (if 0 ≤ x4 then (if x4 < (x0.length : Int) then (if (wrap64 (rd x0 x4)) < 150 then (if x3.length < 35184372088832 then (redactorlaw01_Cells.l0 k x0 (x3 ++ [wrap32 (wrap64 (97 + (Int.tmod (wrap64 (rd x0 x4)) 4)))]) (wrap64 (x4 + 1))) else (none)) else (if (wrap64 (rd x0 x4)) < 180 then (if x3.length < 35184372088832 then (redactorlaw01_Cells.l0 k x0 (x3 ++ [wrap32 (wrap64 (65 + (Int.tmod (wrap64 (rd x0 x4)) 4)))]) (wrap64 (x4 + 1))) else (none)) else (if (wrap64 (rd x0 x4)) < 200 then (if x3.length < 35184372088832 then (redactorlaw01_Cells.l0 k x0 (x3 ++ [10]) (wrap64 (x4 + 1))) else (none)) else (if (wrap64 (rd x0 x4)) < 215 then ((some (([32, 48, 55, 59, 45, 92, 47] : List Int) : List Int)).bind fun y194 => (if 0 ≤ (Int.tmod (wrap64 (rd x0 x4)) 7) then (if (Int.tmod (wrap64 (rd x0 x4)) 7) < (y194.length : Int) then (if x3.length < 35184372088832 then (redactorlaw01_Cells.l0 k x0 (x3 ++ [rd y194 (Int.tmod (wrap64 (rd x0 x4)) 7)]) (wrap64 (x4 + 1))) else (none)) else (none)) else (none))) else (if (wrap64 (rd x0 x4)) < 235 then ((some (([233, 8364, 128512, 127, 9] : List Int) : List Int)).bind fun y201 => (if 0 ≤ (Int.tmod (wrap64 (rd x0 x4)) 5) then (if (Int.tmod (wrap64 (rd x0 x4)) 5) < (y201.length : Int) then (if x3.length < 35184372088832 then (redactorlaw01_Cells.l0 k x0 (x3 ++ [rd y201 (Int.tmod (wrap64 (rd x0 x4)) 5)]) (wrap64 (x4 + 1))) else (none)) else (none)) else (none))) else (if x3.length < 35184372088832 then (redactorlaw01_Cells.l0 k x0 (x3 ++ [wrap32 ((-1) - (wrap32 (wrap64 (128 + (Int.tmod (wrap64 (rd x0 x4)) 128)))))]) (wrap64 (x4 + 1))) else (none))))))) else (none)) else (none)) else (some x3)
end
def redactorlaw01_Cells.f (k : Nat) (l0 : List Int) : Option (List Int) := redactorlaw01_Cells.l0 k l0 ([] : List Int) 0
theorem redactorlaw01_Cells.mono_l : ∀ k, (∀ y0 y1 y2, LeO (redactorlaw01_Cells.l0 k y0 y1 y2) (redactorlaw01_Cells.l0 (k + 1) y0 y1 y2)) ∧ (∀ y0 y1 y2 y3, LeO (redactorlaw01_Cells.j1 k y0 y1 y2 y3) (redactorlaw01_Cells.j1 (k + 1) y0 y1 y2 y3))
  | 0 => ⟨fun _ _ _ r h => by simp [redactorlaw01_Cells.l0] at h, fun _ _ _ _ r h => by simp [redactorlaw01_Cells.j1] at h⟩
  | k + 1 => by
    obtain ⟨ih0, ih1⟩ := redactorlaw01_Cells.mono_l k
    refine ⟨?_, ?_⟩
    · intro y0 y1 y2
      unfold redactorlaw01_Cells.l0
      repeat' first
      | (with_reducible exact ih0 _ _ _)
      | (with_reducible exact ih1 _ _ _ _)
      | (with_reducible exact LeO.refl _)
      | (with_reducible exact LeO.none _)
      | (with_reducible refine LeO.ite ?_ ?_)
      | (with_reducible refine LeO.bind ?_ (fun _ => ?_))
      | exact ih0 _ _ _
      | exact ih1 _ _ _ _
      | exact LeO.none _
      | refine LeO.ite ?_ ?_
      | refine LeO.bind ?_ (fun _ => ?_)
    · intro y0 y1 y2 y3
      unfold redactorlaw01_Cells.j1
      repeat' first
      | (with_reducible exact ih0 _ _ _)
      | (with_reducible exact ih1 _ _ _ _)
      | (with_reducible exact LeO.refl _)
      | (with_reducible exact LeO.none _)
      | (with_reducible refine LeO.ite ?_ ?_)
      | (with_reducible refine LeO.bind ?_ (fun _ => ?_))
      | exact ih0 _ _ _
      | exact ih1 _ _ _ _
      | exact LeO.none _
      | refine LeO.ite ?_ ?_
      | refine LeO.bind ?_ (fun _ => ?_)
theorem redactorlaw01_Cells.mono : ∀ a0 k, LeO (redactorlaw01_Cells.f k a0) (redactorlaw01_Cells.f (k + 1) a0) := by
  intro a0 k
  obtain ⟨ih0, ih1⟩ := redactorlaw01_Cells.mono_l k
  unfold redactorlaw01_Cells.f
  repeat' first
      | (with_reducible exact ih0 _ _ _)
      | (with_reducible exact ih1 _ _ _ _)
      | (with_reducible exact LeO.refl _)
      | (with_reducible exact LeO.none _)
      | (with_reducible refine LeO.ite ?_ ?_)
      | (with_reducible refine LeO.bind ?_ (fun _ => ?_))
      | exact ih0 _ _ _
      | exact ih1 _ _ _ _
      | exact LeO.none _
      | refine LeO.ite ?_ ?_
      | refine LeO.bind ?_ (fun _ => ?_)
set_option maxHeartbeats 8000000 in
set_option maxRecDepth 100000 in
theorem redactorlaw01_Cells.calls (k : Nat) (A0 : Option Addr) (c0 : Nat) (l0 : List Int) (r : List Int) (w : World) (hr0 : Kd.C (Kd.int .u8) w A0 l0.length l0) (hc0 : l0.length ≤ c0) (h : redactorlaw01_Cells.f k l0 = some r) :
    Calls Try.prog 13 #[.slice A0 l0.length c0] w fun e w' => ∃ v0_ : Value, e = .returned (v0_) ∧ Kd.R (Kd.int .i32) 24 w' w.heap.size (fun _ => True) v0_ r ∧ Below w.heap.size w w' := by
  have HR0 := Aside0.mk hr0
  have HC0 := Aside0.mk hc0
  clear hr0 hc0
  have HB := Aside0.mk (Below.refl w.heap.size w)
  have H : (redactorlaw01_Cells.l0 k l0 ([] : List Int) 0) = some r := h
  clear h
  have H' := Aside0.mk H
  clear H
  go_enter Try.func13, Try.ntmps13
  go_wp2
  go_loopg [3, 4] k (fun kq v3 v4 w' => ∃ (x3_1 : List Int) (x4_1 : Int), v4 = .int .i64 x4_1 ∧ Aside0 (redactorlaw01_Cells.l0 kq l0 x3_1 x4_1 = some r) ∧ Aside0 (kq ≤ k) ∧ Aside0 (Kd.R (Kd.int .i32) 24 w' w.heap.size (fun _ => True) v3 x3_1) ∧ Aside0 (Below w.heap.size w w'))
  case atStart => exact ⟨(([] : List Int)), (0), (by first | rfl | (simp; done) | (simp [*]; done)), H', ⟨Nat.le_refl _⟩, ⟨by first | exact Kd.R_nil _ _ _ _ _ | exact Kd.N_nil _ _ _ _ _ | exact Kd.V_nil _ _ _ _ _ | exact Kd.Q_nil _ _ _ _ _ | exact Kd.S_nil _ _ _ _ _⟩, ⟨by repeat (first | (with_reducible first | exact HB.out | apply below_alloc | apply pw_below_drewN | apply below_drew1) | exact HB.out)⟩⟩
  case round =>
    clear H'
    try clear c1
    obtain ⟨x3_1, x4_1, rfl, HA, HK1, HO_3, HB⟩ := hrel
    cases gk with
    | zero => exact absurd HA.out (by simp [redactorlaw01_Cells.l0])
    | succ k1 =>
      have H := HA.out
      clear HA
      simp only [redactorlaw01_Cells.l0] at H
      have HC2 := Aside0.mk H
      clear H
      go_upto_region 3 with (fail)
      go_cut [13] (fun v13 wc => ∃ (kq : Nat) (x13_1 : Bool), v13 = .bool x13_1 ∧ Aside0 (redactorlaw01_Cells.j1 kq l0 x3_1 x4_1 x13_1 = some r) ∧ Aside0 (kq ≤ k1) ∧ Aside0 (Kd.R (Kd.int .i32) 24 wc w.heap.size (fun _ => True) u3 x3_1) ∧ Aside0 (Below w.heap.size w wc))
      case first =>
        have H := HC2.out
        clear HC2
        by_cases c3 : x4_1 < (l0.length : Int)
        · rw [if_pos c3] at H
          have c3b0 : decide (x4_1 < (l0.length : Int)) = true := decide_eq_true c3
          clear c3
          (first | rw [c3b0] | (simp only [i64_w, i32_w]; rw [c3b0]) | skip)
          have H' := Aside0.mk H
          clear H
          go_wp2
          go_meet
          case rel => exact ⟨_, (decide (x4_1 < 60)), (by first | rfl | (simp; done) | (simp [*]; done)), H', ⟨by have := HK1.out; first | omega | exact Nat.le_refl _⟩, ⟨by (with_reducible repeat (first | apply Kd.R_alloc | apply Kd.R_drewN | apply Kd.R_drew)); exact HO_3.out⟩, ⟨by repeat (first | (with_reducible first | exact HB.out | apply below_alloc | apply pw_below_drewN | apply below_drew1) | exact HB.out)⟩⟩
        · rw [if_neg c3] at H
          have c3b0 : decide (x4_1 < (l0.length : Int)) = false := decide_eq_false c3
          clear c3
          (first | rw [c3b0] | (simp only [i64_w, i32_w]; rw [c3b0]) | skip)
          have H' := Aside0.mk H
          clear H
          go_wp2
          go_meet
          case rel => exact ⟨_, (false), (by first | rfl | (simp; done) | (simp [*]; done)), H', ⟨by have := HK1.out; first | omega | exact Nat.le_refl _⟩, ⟨by (with_reducible repeat (first | apply Kd.R_alloc | apply Kd.R_drewN | apply Kd.R_drew)); exact HO_3.out⟩, ⟨by repeat (first | (with_reducible first | exact HB.out | apply below_alloc | apply pw_below_drewN | apply below_drew1) | exact HB.out)⟩⟩
      case rest =>
        clear HC2
        try clear c1
        try clear p2
        try clear c3
        try clear c3b0
        obtain ⟨kq, x13_1, rfl, HA, HJ1, HO_3, HB⟩ := hcut
        cases kq with
        | zero => exact absurd HA.out (by simp [redactorlaw01_Cells.j1])
        | succ kj1 =>
          have H := HA.out
          clear HA
          simp only [redactorlaw01_Cells.j1] at H
          by_cases c4 : x13_1 = true
          · subst c4
            have H1 : (if 0 ≤ x4_1 then (if x4_1 < (l0.length : Int) then (if (wrap64 (rd l0 x4_1)) < 150 then (if x3_1.length < 35184372088832 then (redactorlaw01_Cells.l0 kj1 l0 (x3_1 ++ [wrap32 (wrap64 (97 + (Int.tmod (wrap64 (rd l0 x4_1)) 4)))]) (wrap64 (x4_1 + 1))) else (none)) else (if (wrap64 (rd l0 x4_1)) < 180 then (if x3_1.length < 35184372088832 then (redactorlaw01_Cells.l0 kj1 l0 (x3_1 ++ [wrap32 (wrap64 (65 + (Int.tmod (wrap64 (rd l0 x4_1)) 4)))]) (wrap64 (x4_1 + 1))) else (none)) else (if (wrap64 (rd l0 x4_1)) < 200 then (if x3_1.length < 35184372088832 then (redactorlaw01_Cells.l0 kj1 l0 (x3_1 ++ [10]) (wrap64 (x4_1 + 1))) else (none)) else (if (wrap64 (rd l0 x4_1)) < 215 then ((some (([32, 48, 55, 59, 45, 92, 47] : List Int) : List Int)).bind fun y194 => (if 0 ≤ (Int.tmod (wrap64 (rd l0 x4_1)) 7) then (if (Int.tmod (wrap64 (rd l0 x4_1)) 7) < (y194.length : Int) then (if x3_1.length < 35184372088832 then (redactorlaw01_Cells.l0 kj1 l0 (x3_1 ++ [rd y194 (Int.tmod (wrap64 (rd l0 x4_1)) 7)]) (wrap64 (x4_1 + 1))) else (none)) else (none)) else (none))) else (if (wrap64 (rd l0 x4_1)) < 235 then ((some (([233, 8364, 128512, 127, 9] : List Int) : List Int)).bind fun y201 => (if 0 ≤ (Int.tmod (wrap64 (rd l0 x4_1)) 5) then (if (Int.tmod (wrap64 (rd l0 x4_1)) 5) < (y201.length : Int) then (if x3_1.length < 35184372088832 then (redactorlaw01_Cells.l0 kj1 l0 (x3_1 ++ [rd y201 (Int.tmod (wrap64 (rd l0 x4_1)) 5)]) (wrap64 (x4_1 + 1))) else (none)) else (none)) else (none))) else (if x3_1.length < 35184372088832 then (redactorlaw01_Cells.l0 kj1 l0 (x3_1 ++ [wrap32 ((-1) - (wrap32 (wrap64 (128 + (Int.tmod (wrap64 (rd l0 x4_1)) 128)))))]) (wrap64 (x4_1 + 1))) else (none))))))) else (none)) else (none)) = some r := by rw [if_pos rfl] at H; exact H
            clear H
            have H := H1
            clear H1
            by_cases c5 : 0 ≤ x4_1
            · rw [if_pos c5] at H
              have c5b0 : decide (0 ≤ x4_1) = true := decide_eq_true c5
              clear c5
              by_cases c6 : x4_1 < (l0.length : Int)
              · rw [if_pos c6] at H
                have c6b0 : decide (x4_1 < (l0.length : Int)) = true := decide_eq_true c6
                clear c6
                by_cases c7 : (wrap64 (rd l0 x4_1)) < 150
                · rw [if_pos c7] at H
                  have c7b0 : decide ((wrap64 (rd l0 x4_1)) < 150) = true := decide_eq_true c7
                  clear c7
                  by_cases c8 : x3_1.length < 35184372088832
                  · rw [if_pos c8] at H
                    have LMc8 := Aside0.mk c8
                    clear c8
                    obtain ⟨y185, hy185⟩ : ∃ y_ : List Int, y_ = (x3_1 ++ [wrap32 (wrap64 (97 + (Int.tmod (wrap64 (rd l0 x4_1)) 4)))]) := ⟨_, rfl⟩
                    replace H : (redactorlaw01_Cells.l0 kj1 l0 y185 (wrap64 (x4_1 + 1))) = some r := by first | (rw [hy185]; with_reducible exact H) | (have H2_ := (Option.bind_some _ _).symm.trans H; rw [hy185]; with_reducible exact H2_) | (have H2_ := (Option.bind_some _ _).symm.trans H; with_reducible exact H2_) | with_reducible exact H | (rw [hy185]; exact H) | exact H
                    have Ny185 := Aside0.mk hy185
                    clear hy185
                    have H' := Aside0.mk H
                    clear H
                    have p184 : 0 ≤ (x4_1 : Int) := of_decide_eq_true (by first | (with_reducible assumption) | assumption)
                    have q184 : x4_1 < (l0.length : Int) := of_decide_eq_true (by first | (with_reducible assumption) | assumption)
                    obtain ⟨ad184, e184, hx184_0⟩ := Kd.at_int HR0.out x4_1 p184 q184
                    cases e184
                    replace hx184_0 := (HB.out.cell (World.block_lt_of_cell? w _ hx184_0)).trans hx184_0
                    replace p184 := eq_true p184
                    replace q184 := eq_true q184
                    go_wp2_with (first | ((with_reducible refine gate_builtin (b := .append) (xs := #[.tmp 32, .tmp 37]) rfl ?_); at_builtin; refine Kd.R_append (Kd.int .i32) (w0 := w) w.heap.size rfl (.tmp 32) (.tmp 37) 23 24 (.int .i32 0) 4 rfl Try.underlying23 info24 rfl (by decide) (by omega) u3 x3_1 (wrap32 (wrap64 (97 + (Int.tmod (wrap64 (rd l0 x4_1)) 4)))) [.int .i32 (wrap32 (wrap64 (97 + (Int.tmod (wrap64 (rd l0 x4_1)) 4))))] (fun _ => True) (fun _ => False) rfl rfl ?aP (fun _ hk => hk.elim) ?aF ?aO ?aB ?aS ?aL ?_; (case aP => exact rfl); (case aB => exact (by repeat (first | (with_reducible first | exact HB.out | apply below_alloc | apply pw_below_drewN | apply below_drew1) | exact HB.out))); (case aF => exact (fun _ _ => trivial)); (case aO => exact (by (with_reducible repeat (first | apply Kd.R_alloc | apply Kd.R_drewN | apply Kd.R_drew)); exact HO_3.out)); (case aS => exact (below_size (by repeat (first | (with_reducible first | exact HB.out | apply below_alloc | apply pw_below_drewN | apply below_drew1) | exact HB.out)))); (case aL => have := LMc8.out; omega); intro v186 w9 ho hb hg hat; rw [← Ny185.out] at ho; have n0_ := Aside0.mk (hb); have n1_ := Aside0.mk (ho); clear HB; clear HO_3; have HB := n0_; have HO187 := n1_; clear n0_ n1_; clear ho hb hg hat))
                    go_roundg kj1
                    case measure => have := HK1.out; have := HJ1.out; omega
                    case rel => exact ⟨(y185), (wrap64 (x4_1 + 1)), (by first | rfl | (simp; done) | (simp [*]; done)), H', ⟨by have := HK1.out; have := HJ1.out; omega⟩, ⟨by (with_reducible repeat (first | apply Kd.R_alloc | apply Kd.R_drewN | apply Kd.R_drew)); exact HO187.out⟩, ⟨by repeat (first | (with_reducible first | exact HB.out | apply below_alloc | apply pw_below_drewN | apply below_drew1) | exact HB.out)⟩⟩
                  · rw [if_neg c8] at H
                    exact absurd H (by simp)
                · rw [if_neg c7] at H
                  have c7b0 : decide ((wrap64 (rd l0 x4_1)) < 150) = false := decide_eq_false c7
                  clear c7
                  by_cases c10 : (wrap64 (rd l0 x4_1)) < 180
                  · rw [if_pos c10] at H
                    have c10b0 : decide ((wrap64 (rd l0 x4_1)) < 180) = true := decide_eq_true c10
                    clear c10
                    by_cases c11 : x3_1.length < 35184372088832
                    · rw [if_pos c11] at H
                      have LMc11 := Aside0.mk c11
                      clear c11
                      obtain ⟨y188, hy188⟩ : ∃ y_ : List Int, y_ = (x3_1 ++ [wrap32 (wrap64 (65 + (Int.tmod (wrap64 (rd l0 x4_1)) 4)))]) := ⟨_, rfl⟩
                      replace H : (redactorlaw01_Cells.l0 kj1 l0 y188 (wrap64 (x4_1 + 1))) = some r := by first | (rw [hy188]; with_reducible exact H) | (have H2_ := (Option.bind_some _ _).symm.trans H; rw [hy188]; with_reducible exact H2_) | (have H2_ := (Option.bind_some _ _).symm.trans H; with_reducible exact H2_) | with_reducible exact H | (rw [hy188]; exact H) | exact H
                      have Ny188 := Aside0.mk hy188
                      clear hy188
                      have H' := Aside0.mk H
                      clear H
                      have p184 : 0 ≤ (x4_1 : Int) := of_decide_eq_true (by first | (with_reducible assumption) | assumption)
                      have q184 : x4_1 < (l0.length : Int) := of_decide_eq_true (by first | (with_reducible assumption) | assumption)
                      obtain ⟨ad184, e184, hx184_0⟩ := Kd.at_int HR0.out x4_1 p184 q184
                      cases e184
                      replace hx184_0 := (HB.out.cell (World.block_lt_of_cell? w _ hx184_0)).trans hx184_0
                      replace p184 := eq_true p184
                      replace q184 := eq_true q184
                      go_wp2_with (first | ((with_reducible refine gate_builtin (b := .append) (xs := #[.tmp 42, .tmp 47]) rfl ?_); at_builtin; refine Kd.R_append (Kd.int .i32) (w0 := w) w.heap.size rfl (.tmp 42) (.tmp 47) 23 24 (.int .i32 0) 4 rfl Try.underlying23 info24 rfl (by decide) (by omega) u3 x3_1 (wrap32 (wrap64 (65 + (Int.tmod (wrap64 (rd l0 x4_1)) 4)))) [.int .i32 (wrap32 (wrap64 (65 + (Int.tmod (wrap64 (rd l0 x4_1)) 4))))] (fun _ => True) (fun _ => False) rfl rfl ?aP (fun _ hk => hk.elim) ?aF ?aO ?aB ?aS ?aL ?_; (case aP => exact rfl); (case aB => exact (by repeat (first | (with_reducible first | exact HB.out | apply below_alloc | apply pw_below_drewN | apply below_drew1) | exact HB.out))); (case aF => exact (fun _ _ => trivial)); (case aO => exact (by (with_reducible repeat (first | apply Kd.R_alloc | apply Kd.R_drewN | apply Kd.R_drew)); exact HO_3.out)); (case aS => exact (below_size (by repeat (first | (with_reducible first | exact HB.out | apply below_alloc | apply pw_below_drewN | apply below_drew1) | exact HB.out)))); (case aL => have := LMc11.out; omega); intro v189 w12 ho hb hg hat; rw [← Ny188.out] at ho; have n0_ := Aside0.mk (hb); have n1_ := Aside0.mk (ho); clear HB; clear HO_3; have HB := n0_; have HO190 := n1_; clear n0_ n1_; clear ho hb hg hat))
                      go_roundg kj1
                      case measure => have := HK1.out; have := HJ1.out; omega
                      case rel => exact ⟨(y188), (wrap64 (x4_1 + 1)), (by first | rfl | (simp; done) | (simp [*]; done)), H', ⟨by have := HK1.out; have := HJ1.out; omega⟩, ⟨by (with_reducible repeat (first | apply Kd.R_alloc | apply Kd.R_drewN | apply Kd.R_drew)); exact HO190.out⟩, ⟨by repeat (first | (with_reducible first | exact HB.out | apply below_alloc | apply pw_below_drewN | apply below_drew1) | exact HB.out)⟩⟩
                    · rw [if_neg c11] at H
                      exact absurd H (by simp)
                  · rw [if_neg c10] at H
                    have c10b0 : decide ((wrap64 (rd l0 x4_1)) < 180) = false := decide_eq_false c10
                    clear c10
                    by_cases c13 : (wrap64 (rd l0 x4_1)) < 200
                    · rw [if_pos c13] at H
                      have c13b0 : decide ((wrap64 (rd l0 x4_1)) < 200) = true := decide_eq_true c13
                      clear c13
                      by_cases c14 : x3_1.length < 35184372088832
                      · rw [if_pos c14] at H
                        have LMc14 := Aside0.mk c14
                        clear c14
                        obtain ⟨y191, hy191⟩ : ∃ y_ : List Int, y_ = (x3_1 ++ [10]) := ⟨_, rfl⟩
                        replace H : (redactorlaw01_Cells.l0 kj1 l0 y191 (wrap64 (x4_1 + 1))) = some r := by first | (rw [hy191]; with_reducible exact H) | (have H2_ := (Option.bind_some _ _).symm.trans H; rw [hy191]; with_reducible exact H2_) | (have H2_ := (Option.bind_some _ _).symm.trans H; with_reducible exact H2_) | with_reducible exact H | (rw [hy191]; exact H) | exact H
                        have Ny191 := Aside0.mk hy191
                        clear hy191
                        have H' := Aside0.mk H
                        clear H
                        have p184 : 0 ≤ (x4_1 : Int) := of_decide_eq_true (by first | (with_reducible assumption) | assumption)
                        have q184 : x4_1 < (l0.length : Int) := of_decide_eq_true (by first | (with_reducible assumption) | assumption)
                        obtain ⟨ad184, e184, hx184_0⟩ := Kd.at_int HR0.out x4_1 p184 q184
                        cases e184
                        replace hx184_0 := (HB.out.cell (World.block_lt_of_cell? w _ hx184_0)).trans hx184_0
                        replace p184 := eq_true p184
                        replace q184 := eq_true q184
                        go_wp2_with (first | ((with_reducible refine gate_builtin (b := .append) (xs := #[.tmp 52, .tmp 53]) rfl ?_); at_builtin; refine Kd.R_append (Kd.int .i32) (w0 := w) w.heap.size rfl (.tmp 52) (.tmp 53) 23 24 (.int .i32 0) 4 rfl Try.underlying23 info24 rfl (by decide) (by omega) u3 x3_1 10 [.int .i32 10] (fun _ => True) (fun _ => False) rfl rfl ?aP (fun _ hk => hk.elim) ?aF ?aO ?aB ?aS ?aL ?_; (case aP => exact rfl); (case aB => exact (by repeat (first | (with_reducible first | exact HB.out | apply below_alloc | apply pw_below_drewN | apply below_drew1) | exact HB.out))); (case aF => exact (fun _ _ => trivial)); (case aO => exact (by (with_reducible repeat (first | apply Kd.R_alloc | apply Kd.R_drewN | apply Kd.R_drew)); exact HO_3.out)); (case aS => exact (below_size (by repeat (first | (with_reducible first | exact HB.out | apply below_alloc | apply pw_below_drewN | apply below_drew1) | exact HB.out)))); (case aL => have := LMc14.out; omega); intro v192 w15 ho hb hg hat; rw [← Ny191.out] at ho; have n0_ := Aside0.mk (hb); have n1_ := Aside0.mk (ho); clear HB; clear HO_3; have HB := n0_; have HO193 := n1_; clear n0_ n1_; clear ho hb hg hat))
                        go_roundg kj1
                        case measure => have := HK1.out; have := HJ1.out; omega
                        case rel => exact ⟨(y191), (wrap64 (x4_1 + 1)), (by first | rfl | (simp; done) | (simp [*]; done)), H', ⟨by have := HK1.out; have := HJ1.out; omega⟩, ⟨by (with_reducible repeat (first | apply Kd.R_alloc | apply Kd.R_drewN | apply Kd.R_drew)); exact HO193.out⟩, ⟨by repeat (first | (with_reducible first | exact HB.out | apply below_alloc | apply pw_below_drewN | apply below_drew1) | exact HB.out)⟩⟩
                      · rw [if_neg c14] at H
                        exact absurd H (by simp)
                    · rw [if_neg c13] at H
                      have c13b0 : decide ((wrap64 (rd l0 x4_1)) < 200) = false := decide_eq_false c13
                      clear c13
                      by_cases c16 : (wrap64 (rd l0 x4_1)) < 215
                      · rw [if_pos c16] at H
                        have c16b0 : decide ((wrap64 (rd l0 x4_1)) < 215) = true := decide_eq_true c16
                        clear c16
                        obtain ⟨y194, hy194⟩ : ∃ y_ : List Int, y_ = (([32, 48, 55, 59, 45, 92, 47] : List Int)) := ⟨_, rfl⟩
                        replace H : (if 0 ≤ (Int.tmod (wrap64 (rd l0 x4_1)) 7) then (if (Int.tmod (wrap64 (rd l0 x4_1)) 7) < (y194.length : Int) then (if x3_1.length < 35184372088832 then (redactorlaw01_Cells.l0 kj1 l0 (x3_1 ++ [rd y194 (Int.tmod (wrap64 (rd l0 x4_1)) 7)]) (wrap64 (x4_1 + 1))) else (none)) else (none)) else (none)) = some r := by first | (rw [hy194]; with_reducible exact H) | (have H2_ := (Option.bind_some _ _).symm.trans H; rw [hy194]; with_reducible exact H2_) | (have H2_ := (Option.bind_some _ _).symm.trans H; with_reducible exact H2_) | with_reducible exact H | (rw [hy194]; exact H) | exact H
                        have Ny194 := Aside0.mk hy194
                        clear hy194
                        obtain ⟨ji17, hji17⟩ : ∃ j_ : Int, (Int.tmod (wrap64 (rd l0 x4_1)) 7) = j_ := ⟨_, rfl⟩
                        replace H : (if 0 ≤ (ji17) then (if (ji17) < (y194.length : Int) then (if x3_1.length < 35184372088832 then (redactorlaw01_Cells.l0 kj1 l0 (x3_1 ++ [rd y194 (ji17)]) (wrap64 (x4_1 + 1))) else (none)) else (none)) else (none)) = some r := by first | (rw [hji17] at H; exact H) | (simp only [hji17] at H ⊢; exact H)
                        by_cases c18 : 0 ≤ (ji17)
                        · rw [if_pos c18] at H
                          have c18b0 : decide (0 ≤ (ji17)) = true := decide_eq_true c18
                          clear c18
                          by_cases c19 : (ji17) < (y194.length : Int)
                          · rw [if_pos c19] at H
                            have c19b0 : decide ((ji17) < (y194.length : Int)) = true := decide_eq_true c19
                            clear c19
                            by_cases c20 : x3_1.length < 35184372088832
                            · rw [if_pos c20] at H
                              have LMc20 := Aside0.mk c20
                              clear c20
                              obtain ⟨y198, hy198⟩ : ∃ y_ : List Int, y_ = (x3_1 ++ [rd y194 (ji17)]) := ⟨_, rfl⟩
                              replace H : (redactorlaw01_Cells.l0 kj1 l0 y198 (wrap64 (x4_1 + 1))) = some r := by first | (rw [hy198]; with_reducible exact H) | (have H2_ := (Option.bind_some _ _).symm.trans H; rw [hy198]; with_reducible exact H2_) | (have H2_ := (Option.bind_some _ _).symm.trans H; with_reducible exact H2_) | with_reducible exact H | (rw [hy198]; exact H) | exact H
                              have Ny198 := Aside0.mk hy198
                              clear hy198
                              have H' := Aside0.mk H
                              clear H
                              have p184 : 0 ≤ (x4_1 : Int) := of_decide_eq_true (by first | (with_reducible assumption) | assumption)
                              have q184 : x4_1 < (l0.length : Int) := of_decide_eq_true (by first | (with_reducible assumption) | assumption)
                              obtain ⟨ad184, e184, hx184_0⟩ := Kd.at_int HR0.out x4_1 p184 q184
                              cases e184
                              replace hx184_0 := (HB.out.cell (World.block_lt_of_cell? w _ hx184_0)).trans hx184_0
                              replace p184 := eq_true p184
                              replace q184 := eq_true q184
                              go_wp2_with (first | ((with_reducible refine gate_dst (N := 59) rfl ?_); refine Kd.R_lit (Kd.int .i32) _ 24 ?hg (N := 59) ?hd (xs := ([32, 48, 55, 59, 45, 92, 47] : List Int)) (inner := [.int .i32 32, .int .i32 48, .int .i32 55, .int .i32 59, .int .i32 45, .int .i32 92, .int .i32 47]) (ok := fun _ => True) (okp := fun _ => True) ?hr ?hp (fun _ hk => hk) trivial (Below.refl _ _) (Nat.le_refl _) (by simp) ?_; (case hd => rfl); (case hg => rfl); (case hr => first | (go_simp; done) | (go_simp; rfl)); (case hp => exact (Reps.one (show Kd.M (Kd.int .i32) _ _ _ 32 [.int .i32 32] from rfl) (Reps.one (show Kd.M (Kd.int .i32) _ _ _ 48 [.int .i32 48] from rfl) (Reps.one (show Kd.M (Kd.int .i32) _ _ _ 55 [.int .i32 55] from rfl) (Reps.one (show Kd.M (Kd.int .i32) _ _ _ 59 [.int .i32 59] from rfl) (Reps.one (show Kd.M (Kd.int .i32) _ _ _ 45 [.int .i32 45] from rfl) (Reps.one (show Kd.M (Kd.int .i32) _ _ _ 92 [.int .i32 92] from rfl) (Reps.one (show Kd.M (Kd.int .i32) _ _ _ 47 [.int .i32 47] from rfl) (Reps.none _ _))))))))); intro v195 w21 ho22 hb hg_ hnew_; clear hg_ hnew_; (first | rw [← Ny194.out] at ho22 | (simp only [Int.reduceToNat] at ho22; rw [← Ny194.out] at ho22)); have n0_ := Aside0.mk (Kd.R_elder' (by (with_reducible repeat (first | apply Kd.R_alloc | apply Kd.R_drewN | apply Kd.R_drew)); exact HO_3.out) (Kd.R_base ho22) hb); have n1_ := Aside0.mk (Kd.R_lower (Kd.R_new' ho22 (Kd.R_lt (by (with_reducible repeat (first | apply Kd.R_alloc | apply Kd.R_drewN | apply Kd.R_drew)); exact HO_3.out))) (below_size (by repeat (first | (with_reducible first | exact HB.out | apply below_alloc | apply pw_below_drewN | apply below_drew1) | exact HB.out)))); have n2_ := Aside0.mk (below_step (by repeat (first | (with_reducible first | exact HB.out | apply below_alloc | apply pw_below_drewN | apply below_drew1) | exact HB.out)) hb); clear HO_3; clear HB; have HO_3 := n0_; have HO196 := n1_; have HB := n2_; clear n0_ n1_ n2_; clear hb ho22; obtain ⟨Ao23, co23, eo23⟩ := Kd.R_slice HO196.out; subst eo23; have p197 : 0 ≤ ((ji17) : Int) := of_decide_eq_true (by first | (with_reducible assumption) | assumption); have q197 : (ji17) < (y194.length : Int) := of_decide_eq_true (by first | (with_reducible assumption) | assumption); obtain ⟨ad197, e197, hx197_0⟩ := Kd.at_int (Kd.R_reads' HO196.out).2.2 (ji17) p197 q197; cases e197; replace p197 := eq_true p197; replace q197 := eq_true q197) | ((with_reducible refine gate_builtin (b := .append) (xs := #[.tmp 58, .tmp 64]) rfl ?_); at_builtin; refine Kd.R_append (Kd.int .i32) (w0 := w) w.heap.size rfl (.tmp 58) (.tmp 64) 23 24 (.int .i32 0) 4 rfl Try.underlying23 info24 rfl (by decide) (by omega) u3 x3_1 (rd y194 (ji17)) [.int .i32 (rd y194 (ji17))] (fun k_ => some k_ ≠ (.slice (some ad197) y194.length co23 : Value).ownBlock) (fun _ => False) rfl rfl ?aP (fun _ hk => hk.elim) ?aF ?aO ?aB ?aS ?aL ?_; (case aP => exact rfl); (case aB => exact (by repeat (first | (with_reducible first | exact HB.out | apply below_alloc | apply pw_below_drewN | apply below_drew1) | exact HB.out))); (case aF => exact (fun k_ hk => Kd.fresh' (Kd.R_lt (by (with_reducible repeat (first | apply Kd.R_alloc | apply Kd.R_drewN | apply Kd.R_drew)); exact HO196.out)) k_ hk)); (case aO => exact (by (with_reducible repeat (first | apply Kd.R_alloc | apply Kd.R_drewN | apply Kd.R_drew)); exact Kd.R_mono HO_3.out (fun _ hk => hk.2))); (case aS => exact (below_size (by repeat (first | (with_reducible first | exact HB.out | apply below_alloc | apply pw_below_drewN | apply below_drew1) | exact HB.out)))); (case aL => have := LMc20.out; omega); intro v199 w24 ho hb hg hat; rw [← Ny198.out] at ho; have n0_ := Aside0.mk (Kd.R_after (ok := (fun _ => True)) (by (with_reducible repeat (first | apply Kd.R_alloc | apply Kd.R_drewN | apply Kd.R_drew)); exact HO196.out) hg hat); have n1_ := Aside0.mk (hb); have n2_ := Aside0.mk (ho); clear HO196; clear HB; clear HO_3; have HO196 := n0_; have HB := n1_; have HO200 := n2_; clear n0_ n1_ n2_; clear ho hb hg hat))
                              go_roundg kj1
                              case measure => have := HK1.out; have := HJ1.out; omega
                              case rel => exact ⟨(y198), (wrap64 (x4_1 + 1)), (by first | rfl | (simp; done) | (simp [*]; done)), H', ⟨by have := HK1.out; have := HJ1.out; omega⟩, ⟨by (with_reducible repeat (first | apply Kd.R_alloc | apply Kd.R_drewN | apply Kd.R_drew)); exact Kd.R_mono HO200.out (fun _ hk => trivial)⟩, ⟨by repeat (first | (with_reducible first | exact HB.out | apply below_alloc | apply pw_below_drewN | apply below_drew1) | exact HB.out)⟩⟩
                            · rw [if_neg c20] at H
                              exact absurd H (by simp)
                          · rw [if_neg c19] at H
                            exact absurd H (by simp)
                        · rw [if_neg c18] at H
                          exact absurd H (by simp)
                      · rw [if_neg c16] at H
                        have c16b0 : decide ((wrap64 (rd l0 x4_1)) < 215) = false := decide_eq_false c16
                        clear c16
                        by_cases c25 : (wrap64 (rd l0 x4_1)) < 235
                        · rw [if_pos c25] at H
                          have c25b0 : decide ((wrap64 (rd l0 x4_1)) < 235) = true := decide_eq_true c25
                          clear c25
                          obtain ⟨y201, hy201⟩ : ∃ y_ : List Int, y_ = (([233, 8364, 128512, 127, 9] : List Int)) := ⟨_, rfl⟩
                          replace H : (if 0 ≤ (Int.tmod (wrap64 (rd l0 x4_1)) 5) then (if (Int.tmod (wrap64 (rd l0 x4_1)) 5) < (y201.length : Int) then (if x3_1.length < 35184372088832 then (redactorlaw01_Cells.l0 kj1 l0 (x3_1 ++ [rd y201 (Int.tmod (wrap64 (rd l0 x4_1)) 5)]) (wrap64 (x4_1 + 1))) else (none)) else (none)) else (none)) = some r := by first | (rw [hy201]; with_reducible exact H) | (have H2_ := (Option.bind_some _ _).symm.trans H; rw [hy201]; with_reducible exact H2_) | (have H2_ := (Option.bind_some _ _).symm.trans H; with_reducible exact H2_) | with_reducible exact H | (rw [hy201]; exact H) | exact H
                          have Ny201 := Aside0.mk hy201
                          clear hy201
                          obtain ⟨ji26, hji26⟩ : ∃ j_ : Int, (Int.tmod (wrap64 (rd l0 x4_1)) 5) = j_ := ⟨_, rfl⟩
                          replace H : (if 0 ≤ (ji26) then (if (ji26) < (y201.length : Int) then (if x3_1.length < 35184372088832 then (redactorlaw01_Cells.l0 kj1 l0 (x3_1 ++ [rd y201 (ji26)]) (wrap64 (x4_1 + 1))) else (none)) else (none)) else (none)) = some r := by first | (rw [hji26] at H; exact H) | (simp only [hji26] at H ⊢; exact H)
                          by_cases c27 : 0 ≤ (ji26)
                          · rw [if_pos c27] at H
                            have c27b0 : decide (0 ≤ (ji26)) = true := decide_eq_true c27
                            clear c27
                            by_cases c28 : (ji26) < (y201.length : Int)
                            · rw [if_pos c28] at H
                              have c28b0 : decide ((ji26) < (y201.length : Int)) = true := decide_eq_true c28
                              clear c28
                              by_cases c29 : x3_1.length < 35184372088832
                              · rw [if_pos c29] at H
                                have LMc29 := Aside0.mk c29
                                clear c29
                                obtain ⟨y205, hy205⟩ : ∃ y_ : List Int, y_ = (x3_1 ++ [rd y201 (ji26)]) := ⟨_, rfl⟩
                                replace H : (redactorlaw01_Cells.l0 kj1 l0 y205 (wrap64 (x4_1 + 1))) = some r := by first | (rw [hy205]; with_reducible exact H) | (have H2_ := (Option.bind_some _ _).symm.trans H; rw [hy205]; with_reducible exact H2_) | (have H2_ := (Option.bind_some _ _).symm.trans H; with_reducible exact H2_) | with_reducible exact H | (rw [hy205]; exact H) | exact H
                                have Ny205 := Aside0.mk hy205
                                clear hy205
                                have H' := Aside0.mk H
                                clear H
                                have p184 : 0 ≤ (x4_1 : Int) := of_decide_eq_true (by first | (with_reducible assumption) | assumption)
                                have q184 : x4_1 < (l0.length : Int) := of_decide_eq_true (by first | (with_reducible assumption) | assumption)
                                obtain ⟨ad184, e184, hx184_0⟩ := Kd.at_int HR0.out x4_1 p184 q184
                                cases e184
                                replace hx184_0 := (HB.out.cell (World.block_lt_of_cell? w _ hx184_0)).trans hx184_0
                                replace p184 := eq_true p184
                                replace q184 := eq_true q184
                                go_wp2_with (first | ((with_reducible refine gate_dst (N := 70) rfl ?_); refine Kd.R_lit (Kd.int .i32) _ 24 ?hg (N := 70) ?hd (xs := ([233, 8364, 128512, 127, 9] : List Int)) (inner := [.int .i32 233, .int .i32 8364, .int .i32 128512, .int .i32 127, .int .i32 9]) (ok := fun _ => True) (okp := fun _ => True) ?hr ?hp (fun _ hk => hk) trivial (Below.refl _ _) (Nat.le_refl _) (by simp) ?_; (case hd => rfl); (case hg => rfl); (case hr => first | (go_simp; done) | (go_simp; rfl)); (case hp => exact (Reps.one (show Kd.M (Kd.int .i32) _ _ _ 233 [.int .i32 233] from rfl) (Reps.one (show Kd.M (Kd.int .i32) _ _ _ 8364 [.int .i32 8364] from rfl) (Reps.one (show Kd.M (Kd.int .i32) _ _ _ 128512 [.int .i32 128512] from rfl) (Reps.one (show Kd.M (Kd.int .i32) _ _ _ 127 [.int .i32 127] from rfl) (Reps.one (show Kd.M (Kd.int .i32) _ _ _ 9 [.int .i32 9] from rfl) (Reps.none _ _))))))); intro v202 w30 ho31 hb hg_ hnew_; clear hg_ hnew_; (first | rw [← Ny201.out] at ho31 | (simp only [Int.reduceToNat] at ho31; rw [← Ny201.out] at ho31)); have n0_ := Aside0.mk (Kd.R_elder' (by (with_reducible repeat (first | apply Kd.R_alloc | apply Kd.R_drewN | apply Kd.R_drew)); exact HO_3.out) (Kd.R_base ho31) hb); have n1_ := Aside0.mk (Kd.R_lower (Kd.R_new' ho31 (Kd.R_lt (by (with_reducible repeat (first | apply Kd.R_alloc | apply Kd.R_drewN | apply Kd.R_drew)); exact HO_3.out))) (below_size (by repeat (first | (with_reducible first | exact HB.out | apply below_alloc | apply pw_below_drewN | apply below_drew1) | exact HB.out)))); have n2_ := Aside0.mk (below_step (by repeat (first | (with_reducible first | exact HB.out | apply below_alloc | apply pw_below_drewN | apply below_drew1) | exact HB.out)) hb); clear HO_3; clear HB; have HO_3 := n0_; have HO203 := n1_; have HB := n2_; clear n0_ n1_ n2_; clear hb ho31; obtain ⟨Ao32, co32, eo32⟩ := Kd.R_slice HO203.out; subst eo32; have p204 : 0 ≤ ((ji26) : Int) := of_decide_eq_true (by first | (with_reducible assumption) | assumption); have q204 : (ji26) < (y201.length : Int) := of_decide_eq_true (by first | (with_reducible assumption) | assumption); obtain ⟨ad204, e204, hx204_0⟩ := Kd.at_int (Kd.R_reads' HO203.out).2.2 (ji26) p204 q204; cases e204; replace p204 := eq_true p204; replace q204 := eq_true q204) | ((with_reducible refine gate_builtin (b := .append) (xs := #[.tmp 69, .tmp 75]) rfl ?_); at_builtin; refine Kd.R_append (Kd.int .i32) (w0 := w) w.heap.size rfl (.tmp 69) (.tmp 75) 23 24 (.int .i32 0) 4 rfl Try.underlying23 info24 rfl (by decide) (by omega) u3 x3_1 (rd y201 (ji26)) [.int .i32 (rd y201 (ji26))] (fun k_ => some k_ ≠ (.slice (some ad204) y201.length co32 : Value).ownBlock) (fun _ => False) rfl rfl ?aP (fun _ hk => hk.elim) ?aF ?aO ?aB ?aS ?aL ?_; (case aP => exact rfl); (case aB => exact (by repeat (first | (with_reducible first | exact HB.out | apply below_alloc | apply pw_below_drewN | apply below_drew1) | exact HB.out))); (case aF => exact (fun k_ hk => Kd.fresh' (Kd.R_lt (by (with_reducible repeat (first | apply Kd.R_alloc | apply Kd.R_drewN | apply Kd.R_drew)); exact HO203.out)) k_ hk)); (case aO => exact (by (with_reducible repeat (first | apply Kd.R_alloc | apply Kd.R_drewN | apply Kd.R_drew)); exact Kd.R_mono HO_3.out (fun _ hk => hk.2))); (case aS => exact (below_size (by repeat (first | (with_reducible first | exact HB.out | apply below_alloc | apply pw_below_drewN | apply below_drew1) | exact HB.out)))); (case aL => have := LMc29.out; omega); intro v206 w33 ho hb hg hat; rw [← Ny205.out] at ho; have n0_ := Aside0.mk (Kd.R_after (ok := (fun _ => True)) (by (with_reducible repeat (first | apply Kd.R_alloc | apply Kd.R_drewN | apply Kd.R_drew)); exact HO203.out) hg hat); have n1_ := Aside0.mk (hb); have n2_ := Aside0.mk (ho); clear HO203; clear HB; clear HO_3; have HO203 := n0_; have HB := n1_; have HO207 := n2_; clear n0_ n1_ n2_; clear ho hb hg hat))
                                go_roundg kj1
                                case measure => have := HK1.out; have := HJ1.out; omega
                                case rel => exact ⟨(y205), (wrap64 (x4_1 + 1)), (by first | rfl | (simp; done) | (simp [*]; done)), H', ⟨by have := HK1.out; have := HJ1.out; omega⟩, ⟨by (with_reducible repeat (first | apply Kd.R_alloc | apply Kd.R_drewN | apply Kd.R_drew)); exact Kd.R_mono HO207.out (fun _ hk => trivial)⟩, ⟨by repeat (first | (with_reducible first | exact HB.out | apply below_alloc | apply pw_below_drewN | apply below_drew1) | exact HB.out)⟩⟩
                              · rw [if_neg c29] at H
                                exact absurd H (by simp)
                            · rw [if_neg c28] at H
                              exact absurd H (by simp)
                          · rw [if_neg c27] at H
                            exact absurd H (by simp)
                        · rw [if_neg c25] at H
                          have c25b0 : decide ((wrap64 (rd l0 x4_1)) < 235) = false := decide_eq_false c25
                          clear c25
                          by_cases c34 : x3_1.length < 35184372088832
                          · rw [if_pos c34] at H
                            have LMc34 := Aside0.mk c34
                            clear c34
                            obtain ⟨y208, hy208⟩ : ∃ y_ : List Int, y_ = (x3_1 ++ [wrap32 ((-1) - (wrap32 (wrap64 (128 + (Int.tmod (wrap64 (rd l0 x4_1)) 128)))))]) := ⟨_, rfl⟩
                            replace H : (redactorlaw01_Cells.l0 kj1 l0 y208 (wrap64 (x4_1 + 1))) = some r := by first | (rw [hy208]; with_reducible exact H) | (have H2_ := (Option.bind_some _ _).symm.trans H; rw [hy208]; with_reducible exact H2_) | (have H2_ := (Option.bind_some _ _).symm.trans H; with_reducible exact H2_) | with_reducible exact H | (rw [hy208]; exact H) | exact H
                            have Ny208 := Aside0.mk hy208
                            clear hy208
                            have H' := Aside0.mk H
                            clear H
                            have p184 : 0 ≤ (x4_1 : Int) := of_decide_eq_true (by first | (with_reducible assumption) | assumption)
                            have q184 : x4_1 < (l0.length : Int) := of_decide_eq_true (by first | (with_reducible assumption) | assumption)
                            obtain ⟨ad184, e184, hx184_0⟩ := Kd.at_int HR0.out x4_1 p184 q184
                            cases e184
                            replace hx184_0 := (HB.out.cell (World.block_lt_of_cell? w _ hx184_0)).trans hx184_0
                            replace p184 := eq_true p184
                            replace q184 := eq_true q184
                            go_wp2_with (first | ((with_reducible refine gate_builtin (b := .append) (xs := #[.tmp 21, .tmp 27]) rfl ?_); at_builtin; refine Kd.R_append (Kd.int .i32) (w0 := w) w.heap.size rfl (.tmp 21) (.tmp 27) 23 24 (.int .i32 0) 4 rfl Try.underlying23 info24 rfl (by decide) (by omega) u3 x3_1 (wrap32 ((-1) - (wrap32 (wrap64 (128 + (Int.tmod (wrap64 (rd l0 x4_1)) 128)))))) [.int .i32 (wrap32 ((-1) - (wrap32 (wrap64 (128 + (Int.tmod (wrap64 (rd l0 x4_1)) 128))))))] (fun _ => True) (fun _ => False) rfl rfl ?aP (fun _ hk => hk.elim) ?aF ?aO ?aB ?aS ?aL ?_; (case aP => exact rfl); (case aB => exact (by repeat (first | (with_reducible first | exact HB.out | apply below_alloc | apply pw_below_drewN | apply below_drew1) | exact HB.out))); (case aF => exact (fun _ _ => trivial)); (case aO => exact (by (with_reducible repeat (first | apply Kd.R_alloc | apply Kd.R_drewN | apply Kd.R_drew)); exact HO_3.out)); (case aS => exact (below_size (by repeat (first | (with_reducible first | exact HB.out | apply below_alloc | apply pw_below_drewN | apply below_drew1) | exact HB.out)))); (case aL => have := LMc34.out; omega); intro v209 w35 ho hb hg hat; rw [← Ny208.out] at ho; have n0_ := Aside0.mk (hb); have n1_ := Aside0.mk (ho); clear HB; clear HO_3; have HB := n0_; have HO210 := n1_; clear n0_ n1_; clear ho hb hg hat))
                            go_roundg kj1
                            case measure => have := HK1.out; have := HJ1.out; omega
                            case rel => exact ⟨(y208), (wrap64 (x4_1 + 1)), (by first | rfl | (simp; done) | (simp [*]; done)), H', ⟨by have := HK1.out; have := HJ1.out; omega⟩, ⟨by (with_reducible repeat (first | apply Kd.R_alloc | apply Kd.R_drewN | apply Kd.R_drew)); exact HO210.out⟩, ⟨by repeat (first | (with_reducible first | exact HB.out | apply below_alloc | apply pw_below_drewN | apply below_drew1) | exact HB.out)⟩⟩
                          · rw [if_neg c34] at H
                            exact absurd H (by simp)
              · rw [if_neg c6] at H
                exact absurd H (by simp)
            · rw [if_neg c5] at H
              exact absurd H (by simp)
          · replace c4 := Bool.eq_false_iff.mpr c4
            subst c4
            have H1 : (some x3_1) = some r := by rw [if_neg (show ¬ (false = true) by decide)] at H; exact H
            clear H
            have H := H1
            clear H1
            obtain rfl := Option.some.inj H
            go_wp2
            go_ret
            exact ⟨_, by first | rfl | (simp [errW_none, errW_some] <;> rfl) | (simp [*, errW_none, errW_some] <;> rfl), by (with_reducible repeat (first | apply Kd.R_alloc | apply Kd.R_drewN | apply Kd.R_drew)); exact HO_3.out, by repeat (first | (with_reducible first | exact HB.out | apply below_alloc | apply pw_below_drewN | apply below_drew1) | exact HB.out)⟩

/-! ### redactorlaw14_SubstMaps: function 4 -/
def redactorlaw14_SubstMaps.l0 : Nat → Int → List Int → List Int → Int → Option (Bool)
  | 0, _, _, _, _ => none
  | k + 1, x1, x7, x8, x9 => if x9 < (x7.length : Int) then (if 0 ≤ x9 then (if (rd x7 x9) = 97 then (if x9 < (x8.length : Int) then (if (rd x8 x9) = x1 then (redactorlaw14_SubstMaps.l0 k x1 x7 x8 (wrap64 (x9 + 1))) else (some false)) else (none)) else (if x9 < (x8.length : Int) then (if (rd x8 x9) = (rd x7 x9) then (redactorlaw14_SubstMaps.l0 k x1 x7 x8 (wrap64 (x9 + 1))) else (some false)) else (none))) else (none)) else ((redactorlaw14_known.f k).bind fun t229 => (if t229 = true then ((subst_Map.f ([] : List (S31)) x7).bind fun t230 => ((redactorref01_Same.f k t230 x7).bind fun t233 => (some t233))) else (some false)))
def redactorlaw14_SubstMaps.f (k : Nat) (l0 : List Int) (a1 : Int) (a2 : Int) : Option (Bool) := (redactorlaw01_Cells.f k l0).bind fun t211 => (if t211.length < 35184372088832 then ((some (t211 ++ [97] : List Int)).bind fun y214 => ((subst_Map.f (([(⟨97, a1⟩ : S31), (⟨97, a2⟩ : S31)] : List (S31))) y214).bind fun t220 => (if (t220.length : Int) = (y214.length : Int) then (redactorlaw14_SubstMaps.l0 k a1 y214 t220 0) else (some false)))) else (none))
theorem redactorlaw14_SubstMaps.mono_l : ∀ k, (∀ y0 y1 y2 y3, LeO (redactorlaw14_SubstMaps.l0 k y0 y1 y2 y3) (redactorlaw14_SubstMaps.l0 (k + 1) y0 y1 y2 y3))
  | 0 => fun _ _ _ _ r h => by simp [redactorlaw14_SubstMaps.l0] at h
  | k + 1 => by
    have ih0 := redactorlaw14_SubstMaps.mono_l k
    · intro y0 y1 y2 y3
      unfold redactorlaw14_SubstMaps.l0
      repeat' first
      | (with_reducible exact ih0 _ _ _ _)
      | (with_reducible exact redactorlaw01_Cells.mono _ _)
      | (with_reducible exact redactorlaw14_known.mono _)
      | (with_reducible exact redactorref01_Same.mono _ _ _)
      | (with_reducible exact LeO.refl _)
      | (with_reducible exact LeO.none _)
      | (with_reducible refine LeO.ite ?_ ?_)
      | (with_reducible refine LeO.bind ?_ (fun _ => ?_))
      | exact ih0 _ _ _ _
      | exact redactorlaw01_Cells.mono _ _
      | exact redactorlaw14_known.mono _
      | exact redactorref01_Same.mono _ _ _
      | exact LeO.none _
      | refine LeO.ite ?_ ?_
      | refine LeO.bind ?_ (fun _ => ?_)
theorem redactorlaw14_SubstMaps.mono : ∀ a0 a1 a2 k, LeO (redactorlaw14_SubstMaps.f k a0 a1 a2) (redactorlaw14_SubstMaps.f (k + 1) a0 a1 a2) := by
  intro a0 a1 a2 k
  have ih0 := redactorlaw14_SubstMaps.mono_l k
  unfold redactorlaw14_SubstMaps.f
  repeat' first
      | (with_reducible exact ih0 _ _ _ _)
      | (with_reducible exact redactorlaw01_Cells.mono _ _)
      | (with_reducible exact redactorlaw14_known.mono _)
      | (with_reducible exact redactorref01_Same.mono _ _ _)
      | (with_reducible exact LeO.refl _)
      | (with_reducible exact LeO.none _)
      | (with_reducible refine LeO.ite ?_ ?_)
      | (with_reducible refine LeO.bind ?_ (fun _ => ?_))
      | exact ih0 _ _ _ _
      | exact redactorlaw01_Cells.mono _ _
      | exact redactorlaw14_known.mono _
      | exact redactorref01_Same.mono _ _ _
      | exact LeO.none _
      | refine LeO.ite ?_ ?_
      | refine LeO.bind ?_ (fun _ => ?_)
set_option maxHeartbeats 8000000 in
set_option maxRecDepth 100000 in
theorem redactorlaw14_SubstMaps.calls (k : Nat) (A0 : Option Addr) (c0 : Nat) (l0 : List Int) (a1 : Int) (a2 : Int) (r : Bool) (w : World) (hr0 : Kd.C (Kd.int .u8) w A0 l0.length l0) (hc0 : l0.length ≤ c0) (h : redactorlaw14_SubstMaps.f k l0 a1 a2 = some r) :
    Calls Try.prog 4 #[.slice A0 l0.length c0, .int .i32 a1, .int .i32 a2] w fun e w' => e = .returned (.bool r) ∧ Below w.heap.size w w' := by
  have hu31 := Try.underlying31
  have HR0 := Aside0.mk hr0
  have HC0 := Aside0.mk hc0
  clear hr0 hc0
  have HB := Aside0.mk (Below.refl w.heap.size w)
  have H : ((redactorlaw01_Cells.f k l0).bind fun t211 => (if t211.length < 35184372088832 then ((some (t211 ++ [97] : List Int)).bind fun y214 => ((subst_Map.f (([(⟨97, a1⟩ : S31), (⟨97, a2⟩ : S31)] : List (S31))) y214).bind fun t220 => (if (t220.length : Int) = (y214.length : Int) then (redactorlaw14_SubstMaps.l0 k a1 y214 t220 0) else (some false)))) else (none))) = some r := h
  clear h
  replace H := Option.bind_eq_some_iff.mp H
  obtain ⟨t211, A40, H⟩ := H
  replace H : (if t211.length < 35184372088832 then ((some (t211 ++ [97] : List Int)).bind fun y214 => ((subst_Map.f (([(⟨97, a1⟩ : S31), (⟨97, a2⟩ : S31)] : List (S31))) y214).bind fun t220 => (if (t220.length : Int) = (y214.length : Int) then (redactorlaw14_SubstMaps.l0 k a1 y214 t220 0) else (some false)))) else (none)) = some r := H
  have A4 := Aside0.mk A40
  clear A40
  by_cases c5 : t211.length < 35184372088832
  · rw [if_pos c5] at H
    have LMc5 := Aside0.mk c5
    clear c5
    obtain ⟨y214, hy214⟩ : ∃ y_ : List Int, y_ = (t211 ++ [97]) := ⟨_, rfl⟩
    replace H : ((subst_Map.f (([(⟨97, a1⟩ : S31), (⟨97, a2⟩ : S31)] : List (S31))) y214).bind fun t220 => (if (t220.length : Int) = (y214.length : Int) then (redactorlaw14_SubstMaps.l0 k a1 y214 t220 0) else (some false))) = some r := by first | (rw [hy214]; with_reducible exact H) | (have H2_ := (Option.bind_some _ _).symm.trans H; rw [hy214]; with_reducible exact H2_) | (have H2_ := (Option.bind_some _ _).symm.trans H; with_reducible exact H2_) | with_reducible exact H | (rw [hy214]; exact H) | exact H
    have Ny214 := Aside0.mk hy214
    clear hy214
    obtain ⟨y217, hy217⟩ : ∃ y_ : List (S31), y_ = (([(⟨97, a1⟩ : S31), (⟨97, a2⟩ : S31)] : List (S31))) := ⟨_, rfl⟩
    replace H : ((subst_Map.f y217 y214).bind fun t220 => (if (t220.length : Int) = (y214.length : Int) then (redactorlaw14_SubstMaps.l0 k a1 y214 t220 0) else (some false))) = some r := by first | (rw [hy217]; with_reducible exact H) | (have H2_ := (Option.bind_some _ _).symm.trans H; rw [hy217]; with_reducible exact H2_) | (have H2_ := (Option.bind_some _ _).symm.trans H; with_reducible exact H2_) | with_reducible exact H | (rw [hy217]; exact H) | exact H
    have Ny217 := Aside0.mk hy217
    clear hy217
    replace H := Option.bind_eq_some_iff.mp H
    obtain ⟨t220, A60, H⟩ := H
    replace H : (if (t220.length : Int) = (y214.length : Int) then (redactorlaw14_SubstMaps.l0 k a1 y214 t220 0) else (some false)) = some r := H
    have A6 := Aside0.mk A60
    clear A60
    by_cases c7 : (t220.length : Int) = (y214.length : Int)
    · rw [if_pos c7] at H
      have c7b0 : ((t220.length : Int) == (y214.length : Int)) = true := beq_iff_eq.mpr c7
      have c7b1 : ((t220.length : Int) != (y214.length : Int)) = false := bne_eq_false_iff_eq.mpr c7
      have c7b2 : (t220.length == y214.length) = true := by first | simpa using c7 | (simp at c7 ⊢; omega)
      clear c7
      have H' := Aside0.mk H
      clear H
      go_enter Try.func4, Try.ntmps4
      go_wp2_with (first | (go_at_call 13; (with_reducible refine (redactorlaw01_Cells.calls k _ _ l0 t211 _ ?side1 ?side2 A4.out).mono ?_); (case side1 => repeat (first | exact HR0.out | (with_reducible refine Kd.C_alloc ?_ _) | (with_reducible refine Kd.C_drewN ?_ _) | (with_reducible refine Kd.C_drew ?_))); (case side2 => exact HC0.out); rintro e w8 ⟨v212, rfl, ho0, hb⟩; have n0_ := Aside0.mk (Kd.R_lower ho0 (below_size (by repeat (first | (with_reducible first | exact HB.out | apply below_alloc | apply pw_below_drewN | apply below_drew1) | exact HB.out)))); have n1_ := Aside0.mk (below_step (by repeat (first | (with_reducible first | exact HB.out | apply below_alloc | apply pw_below_drewN | apply below_drew1) | exact HB.out)) hb); clear HB; have HO213 := n0_; have HB := n1_; clear n0_ n1_; (try clear hb); (try clear hb2); (try clear hk); (try clear hi); (try clear ho0)) | ((with_reducible refine gate_builtin (b := .append) (xs := #[.tmp 12, .tmp 13]) rfl ?_); at_builtin; refine Kd.R_append (Kd.int .i32) (w0 := w) w.heap.size rfl (.tmp 12) (.tmp 13) 23 24 (.int .i32 0) 4 rfl Try.underlying23 info24 rfl (by decide) (by omega) v212 t211 97 [.int .i32 97] (fun _ => True) (fun _ => False) rfl rfl ?aP (fun _ hk => hk.elim) ?aF ?aO ?aB ?aS ?aL ?_; (case aP => exact rfl); (case aB => exact (by repeat (first | (with_reducible first | exact HB.out | apply below_alloc | apply pw_below_drewN | apply below_drew1) | exact HB.out))); (case aF => exact (fun _ _ => trivial)); (case aO => exact (by (with_reducible repeat (first | apply Kd.R_alloc | apply Kd.R_drewN | apply Kd.R_drew)); exact HO213.out)); (case aS => exact (below_size (by repeat (first | (with_reducible first | exact HB.out | apply below_alloc | apply pw_below_drewN | apply below_drew1) | exact HB.out)))); (case aL => have := LMc5.out; omega); intro v215 w9 ho hb hg hat; rw [← Ny214.out] at ho; have n0_ := Aside0.mk (hb); have n1_ := Aside0.mk (ho); clear HB; clear HO213; have HB := n0_; have HO216 := n1_; clear n0_ n1_; clear ho hb hg hat) | ((with_reducible refine gate_dst (N := 19) rfl ?_); refine Kd.R_lit k31 _ 31 ?hg (N := 19) ?hd (xs := ([(⟨97, a1⟩ : S31), (⟨97, a2⟩ : S31)] : List (S31))) (inner := [.int .i32 97, .int .i32 a1, .int .i32 97, .int .i32 a2]) (ok := fun _ => True) (okp := fun _ => True) ?hr ?hp (fun _ hk => hk) trivial (Below.refl _ _) (Nat.le_refl _) (by simp) ?_; (case hd => rfl); (case hg => rfl); (case hr => first | (go_simp; done) | (go_simp; rfl)); (case hp => exact (Reps.c2 (show Kd.M k31 _ _ _ (⟨97, a1⟩ : S31) [.int .i32 97, .int .i32 a1] from (k31_mkM _ _ _ (⟨97, a1⟩ : S31) )) (Reps.c2 (show Kd.M k31 _ _ _ (⟨97, a2⟩ : S31) [.int .i32 97, .int .i32 a2] from (k31_mkM _ _ _ (⟨97, a2⟩ : S31) )) (Reps.none _ _)))); intro v218 w10 ho11 hb hg_ hnew_; clear hg_ hnew_; (first | rw [← Ny217.out] at ho11 | (simp only [Int.reduceToNat] at ho11; rw [← Ny217.out] at ho11)); have n0_ := Aside0.mk (Kd.R_below (by (with_reducible repeat (first | apply Kd.R_alloc | apply Kd.R_drewN | apply Kd.R_drew)); exact HO216.out) hb); have n1_ := Aside0.mk (Kd.R_lower ho11 (below_size (by repeat (first | (with_reducible first | exact HB.out | apply below_alloc | apply pw_below_drewN | apply below_drew1) | exact HB.out)))); have n2_ := Aside0.mk (below_step (by repeat (first | (with_reducible first | exact HB.out | apply below_alloc | apply pw_below_drewN | apply below_drew1) | exact HB.out)) hb); clear HO216; clear HB; have HO216 := n0_; have HO219 := n1_; have HB := n2_; clear n0_ n1_ n2_; clear hb ho11; obtain ⟨Ao12, co12, eo12⟩ := Kd.R_slice HO219.out; subst eo12; obtain ⟨Ao13, co13, eo13⟩ := Kd.R_slice HO216.out; subst eo13) | (go_at_call 10; (with_reducible refine (subst_Map.calls _ _ y217 _ _ y214 t220 _ ?side1 ?side2 ?side3 ?side4 A6.out).mono ?_); (case side1 => repeat (first | exact (Kd.R_reads' HO219.out).2.2 | (with_reducible refine Kd.C_alloc ?_ _) | (with_reducible refine Kd.C_drewN ?_ _) | (with_reducible refine Kd.C_drew ?_))); (case side2 => exact (Kd.R_reads' HO219.out).2.1); (case side3 => repeat (first | exact (Kd.R_reads' HO216.out).2.2 | (with_reducible refine Kd.C_alloc ?_ _) | (with_reducible refine Kd.C_drewN ?_ _) | (with_reducible refine Kd.C_drew ?_))); (case side4 => exact (Kd.R_reads' HO216.out).2.1); rintro e w14 ⟨v221, rfl, ho0, hb⟩; have n0_ := Aside0.mk (Kd.R_elder' (by (with_reducible repeat (first | apply Kd.R_alloc | apply Kd.R_drewN | apply Kd.R_drew)); exact HO216.out) (Kd.R_base ho0) hb); have n1_ := Aside0.mk (Kd.R_below (by (with_reducible repeat (first | apply Kd.R_alloc | apply Kd.R_drewN | apply Kd.R_drew)); exact HO219.out) hb); have n2_ := Aside0.mk (Kd.R_lower (Kd.R_new' ho0 (Kd.R_lt (by (with_reducible repeat (first | apply Kd.R_alloc | apply Kd.R_drewN | apply Kd.R_drew)); exact HO216.out))) (below_size (by repeat (first | (with_reducible first | exact HB.out | apply below_alloc | apply pw_below_drewN | apply below_drew1) | exact HB.out)))); have n3_ := Aside0.mk (below_step (by repeat (first | (with_reducible first | exact HB.out | apply below_alloc | apply pw_below_drewN | apply below_drew1) | exact HB.out)) hb); clear HO216; clear HO219; clear HB; have HO216 := n0_; have HO219 := n1_; have HO222 := n2_; have HB := n3_; clear n0_ n1_ n2_ n3_; (try clear hb); (try clear hb2); (try clear hk); (try clear hi); (try clear ho0); obtain ⟨Ao15, co15, eo15⟩ := Kd.R_slice HO222.out; subst eo15))
      repeat (go_quiet (first | (go_at_call 13; (with_reducible refine (redactorlaw01_Cells.calls k _ _ l0 t211 _ ?side1 ?side2 A4.out).mono ?_); (case side1 => repeat (first | exact HR0.out | (with_reducible refine Kd.C_alloc ?_ _) | (with_reducible refine Kd.C_drewN ?_ _) | (with_reducible refine Kd.C_drew ?_))); (case side2 => exact HC0.out); rintro e w8 ⟨v212, rfl, ho0, hb⟩; have n0_ := Aside0.mk (Kd.R_lower ho0 (below_size (by repeat (first | (with_reducible first | exact HB.out | apply below_alloc | apply pw_below_drewN | apply below_drew1) | exact HB.out)))); have n1_ := Aside0.mk (below_step (by repeat (first | (with_reducible first | exact HB.out | apply below_alloc | apply pw_below_drewN | apply below_drew1) | exact HB.out)) hb); clear HB; have HO213 := n0_; have HB := n1_; clear n0_ n1_; (try clear hb); (try clear hb2); (try clear hk); (try clear hi); (try clear ho0)) | ((with_reducible refine gate_builtin (b := .append) (xs := #[.tmp 12, .tmp 13]) rfl ?_); at_builtin; refine Kd.R_append (Kd.int .i32) (w0 := w) w.heap.size rfl (.tmp 12) (.tmp 13) 23 24 (.int .i32 0) 4 rfl Try.underlying23 info24 rfl (by decide) (by omega) v212 t211 97 [.int .i32 97] (fun _ => True) (fun _ => False) rfl rfl ?aP (fun _ hk => hk.elim) ?aF ?aO ?aB ?aS ?aL ?_; (case aP => exact rfl); (case aB => exact (by repeat (first | (with_reducible first | exact HB.out | apply below_alloc | apply pw_below_drewN | apply below_drew1) | exact HB.out))); (case aF => exact (fun _ _ => trivial)); (case aO => exact (by (with_reducible repeat (first | apply Kd.R_alloc | apply Kd.R_drewN | apply Kd.R_drew)); exact HO213.out)); (case aS => exact (below_size (by repeat (first | (with_reducible first | exact HB.out | apply below_alloc | apply pw_below_drewN | apply below_drew1) | exact HB.out)))); (case aL => have := LMc5.out; omega); intro v215 w9 ho hb hg hat; rw [← Ny214.out] at ho; have n0_ := Aside0.mk (hb); have n1_ := Aside0.mk (ho); clear HB; clear HO213; have HB := n0_; have HO216 := n1_; clear n0_ n1_; clear ho hb hg hat) | ((with_reducible refine gate_dst (N := 19) rfl ?_); refine Kd.R_lit k31 _ 31 ?hg (N := 19) ?hd (xs := ([(⟨97, a1⟩ : S31), (⟨97, a2⟩ : S31)] : List (S31))) (inner := [.int .i32 97, .int .i32 a1, .int .i32 97, .int .i32 a2]) (ok := fun _ => True) (okp := fun _ => True) ?hr ?hp (fun _ hk => hk) trivial (Below.refl _ _) (Nat.le_refl _) (by simp) ?_; (case hd => rfl); (case hg => rfl); (case hr => first | (go_simp; done) | (go_simp; rfl)); (case hp => exact (Reps.c2 (show Kd.M k31 _ _ _ (⟨97, a1⟩ : S31) [.int .i32 97, .int .i32 a1] from (k31_mkM _ _ _ (⟨97, a1⟩ : S31) )) (Reps.c2 (show Kd.M k31 _ _ _ (⟨97, a2⟩ : S31) [.int .i32 97, .int .i32 a2] from (k31_mkM _ _ _ (⟨97, a2⟩ : S31) )) (Reps.none _ _)))); intro v218 w10 ho11 hb hg_ hnew_; clear hg_ hnew_; (first | rw [← Ny217.out] at ho11 | (simp only [Int.reduceToNat] at ho11; rw [← Ny217.out] at ho11)); have n0_ := Aside0.mk (Kd.R_below (by (with_reducible repeat (first | apply Kd.R_alloc | apply Kd.R_drewN | apply Kd.R_drew)); exact HO216.out) hb); have n1_ := Aside0.mk (Kd.R_lower ho11 (below_size (by repeat (first | (with_reducible first | exact HB.out | apply below_alloc | apply pw_below_drewN | apply below_drew1) | exact HB.out)))); have n2_ := Aside0.mk (below_step (by repeat (first | (with_reducible first | exact HB.out | apply below_alloc | apply pw_below_drewN | apply below_drew1) | exact HB.out)) hb); clear HO216; clear HB; have HO216 := n0_; have HO219 := n1_; have HB := n2_; clear n0_ n1_ n2_; clear hb ho11; obtain ⟨Ao12, co12, eo12⟩ := Kd.R_slice HO219.out; subst eo12; obtain ⟨Ao13, co13, eo13⟩ := Kd.R_slice HO216.out; subst eo13) | (go_at_call 10; (with_reducible refine (subst_Map.calls _ _ y217 _ _ y214 t220 _ ?side1 ?side2 ?side3 ?side4 A6.out).mono ?_); (case side1 => repeat (first | exact (Kd.R_reads' HO219.out).2.2 | (with_reducible refine Kd.C_alloc ?_ _) | (with_reducible refine Kd.C_drewN ?_ _) | (with_reducible refine Kd.C_drew ?_))); (case side2 => exact (Kd.R_reads' HO219.out).2.1); (case side3 => repeat (first | exact (Kd.R_reads' HO216.out).2.2 | (with_reducible refine Kd.C_alloc ?_ _) | (with_reducible refine Kd.C_drewN ?_ _) | (with_reducible refine Kd.C_drew ?_))); (case side4 => exact (Kd.R_reads' HO216.out).2.1); rintro e w14 ⟨v221, rfl, ho0, hb⟩; have n0_ := Aside0.mk (Kd.R_elder' (by (with_reducible repeat (first | apply Kd.R_alloc | apply Kd.R_drewN | apply Kd.R_drew)); exact HO216.out) (Kd.R_base ho0) hb); have n1_ := Aside0.mk (Kd.R_below (by (with_reducible repeat (first | apply Kd.R_alloc | apply Kd.R_drewN | apply Kd.R_drew)); exact HO219.out) hb); have n2_ := Aside0.mk (Kd.R_lower (Kd.R_new' ho0 (Kd.R_lt (by (with_reducible repeat (first | apply Kd.R_alloc | apply Kd.R_drewN | apply Kd.R_drew)); exact HO216.out))) (below_size (by repeat (first | (with_reducible first | exact HB.out | apply below_alloc | apply pw_below_drewN | apply below_drew1) | exact HB.out)))); have n3_ := Aside0.mk (below_step (by repeat (first | (with_reducible first | exact HB.out | apply below_alloc | apply pw_below_drewN | apply below_drew1) | exact HB.out)) hb); clear HO216; clear HO219; clear HB; have HO216 := n0_; have HO219 := n1_; have HO222 := n2_; have HB := n3_; clear n0_ n1_ n2_ n3_; (try clear hb); (try clear hb2); (try clear hk); (try clear hi); (try clear ho0); obtain ⟨Ao15, co15, eo15⟩ := Kd.R_slice HO222.out; subst eo15)); try go_wp2_with (first | (go_at_call 13; (with_reducible refine (redactorlaw01_Cells.calls k _ _ l0 t211 _ ?side1 ?side2 A4.out).mono ?_); (case side1 => repeat (first | exact HR0.out | (with_reducible refine Kd.C_alloc ?_ _) | (with_reducible refine Kd.C_drewN ?_ _) | (with_reducible refine Kd.C_drew ?_))); (case side2 => exact HC0.out); rintro e w8 ⟨v212, rfl, ho0, hb⟩; have n0_ := Aside0.mk (Kd.R_lower ho0 (below_size (by repeat (first | (with_reducible first | exact HB.out | apply below_alloc | apply pw_below_drewN | apply below_drew1) | exact HB.out)))); have n1_ := Aside0.mk (below_step (by repeat (first | (with_reducible first | exact HB.out | apply below_alloc | apply pw_below_drewN | apply below_drew1) | exact HB.out)) hb); clear HB; have HO213 := n0_; have HB := n1_; clear n0_ n1_; (try clear hb); (try clear hb2); (try clear hk); (try clear hi); (try clear ho0)) | ((with_reducible refine gate_builtin (b := .append) (xs := #[.tmp 12, .tmp 13]) rfl ?_); at_builtin; refine Kd.R_append (Kd.int .i32) (w0 := w) w.heap.size rfl (.tmp 12) (.tmp 13) 23 24 (.int .i32 0) 4 rfl Try.underlying23 info24 rfl (by decide) (by omega) v212 t211 97 [.int .i32 97] (fun _ => True) (fun _ => False) rfl rfl ?aP (fun _ hk => hk.elim) ?aF ?aO ?aB ?aS ?aL ?_; (case aP => exact rfl); (case aB => exact (by repeat (first | (with_reducible first | exact HB.out | apply below_alloc | apply pw_below_drewN | apply below_drew1) | exact HB.out))); (case aF => exact (fun _ _ => trivial)); (case aO => exact (by (with_reducible repeat (first | apply Kd.R_alloc | apply Kd.R_drewN | apply Kd.R_drew)); exact HO213.out)); (case aS => exact (below_size (by repeat (first | (with_reducible first | exact HB.out | apply below_alloc | apply pw_below_drewN | apply below_drew1) | exact HB.out)))); (case aL => have := LMc5.out; omega); intro v215 w9 ho hb hg hat; rw [← Ny214.out] at ho; have n0_ := Aside0.mk (hb); have n1_ := Aside0.mk (ho); clear HB; clear HO213; have HB := n0_; have HO216 := n1_; clear n0_ n1_; clear ho hb hg hat) | ((with_reducible refine gate_dst (N := 19) rfl ?_); refine Kd.R_lit k31 _ 31 ?hg (N := 19) ?hd (xs := ([(⟨97, a1⟩ : S31), (⟨97, a2⟩ : S31)] : List (S31))) (inner := [.int .i32 97, .int .i32 a1, .int .i32 97, .int .i32 a2]) (ok := fun _ => True) (okp := fun _ => True) ?hr ?hp (fun _ hk => hk) trivial (Below.refl _ _) (Nat.le_refl _) (by simp) ?_; (case hd => rfl); (case hg => rfl); (case hr => first | (go_simp; done) | (go_simp; rfl)); (case hp => exact (Reps.c2 (show Kd.M k31 _ _ _ (⟨97, a1⟩ : S31) [.int .i32 97, .int .i32 a1] from (k31_mkM _ _ _ (⟨97, a1⟩ : S31) )) (Reps.c2 (show Kd.M k31 _ _ _ (⟨97, a2⟩ : S31) [.int .i32 97, .int .i32 a2] from (k31_mkM _ _ _ (⟨97, a2⟩ : S31) )) (Reps.none _ _)))); intro v218 w10 ho11 hb hg_ hnew_; clear hg_ hnew_; (first | rw [← Ny217.out] at ho11 | (simp only [Int.reduceToNat] at ho11; rw [← Ny217.out] at ho11)); have n0_ := Aside0.mk (Kd.R_below (by (with_reducible repeat (first | apply Kd.R_alloc | apply Kd.R_drewN | apply Kd.R_drew)); exact HO216.out) hb); have n1_ := Aside0.mk (Kd.R_lower ho11 (below_size (by repeat (first | (with_reducible first | exact HB.out | apply below_alloc | apply pw_below_drewN | apply below_drew1) | exact HB.out)))); have n2_ := Aside0.mk (below_step (by repeat (first | (with_reducible first | exact HB.out | apply below_alloc | apply pw_below_drewN | apply below_drew1) | exact HB.out)) hb); clear HO216; clear HB; have HO216 := n0_; have HO219 := n1_; have HB := n2_; clear n0_ n1_ n2_; clear hb ho11; obtain ⟨Ao12, co12, eo12⟩ := Kd.R_slice HO219.out; subst eo12; obtain ⟨Ao13, co13, eo13⟩ := Kd.R_slice HO216.out; subst eo13) | (go_at_call 10; (with_reducible refine (subst_Map.calls _ _ y217 _ _ y214 t220 _ ?side1 ?side2 ?side3 ?side4 A6.out).mono ?_); (case side1 => repeat (first | exact (Kd.R_reads' HO219.out).2.2 | (with_reducible refine Kd.C_alloc ?_ _) | (with_reducible refine Kd.C_drewN ?_ _) | (with_reducible refine Kd.C_drew ?_))); (case side2 => exact (Kd.R_reads' HO219.out).2.1); (case side3 => repeat (first | exact (Kd.R_reads' HO216.out).2.2 | (with_reducible refine Kd.C_alloc ?_ _) | (with_reducible refine Kd.C_drewN ?_ _) | (with_reducible refine Kd.C_drew ?_))); (case side4 => exact (Kd.R_reads' HO216.out).2.1); rintro e w14 ⟨v221, rfl, ho0, hb⟩; have n0_ := Aside0.mk (Kd.R_elder' (by (with_reducible repeat (first | apply Kd.R_alloc | apply Kd.R_drewN | apply Kd.R_drew)); exact HO216.out) (Kd.R_base ho0) hb); have n1_ := Aside0.mk (Kd.R_below (by (with_reducible repeat (first | apply Kd.R_alloc | apply Kd.R_drewN | apply Kd.R_drew)); exact HO219.out) hb); have n2_ := Aside0.mk (Kd.R_lower (Kd.R_new' ho0 (Kd.R_lt (by (with_reducible repeat (first | apply Kd.R_alloc | apply Kd.R_drewN | apply Kd.R_drew)); exact HO216.out))) (below_size (by repeat (first | (with_reducible first | exact HB.out | apply below_alloc | apply pw_below_drewN | apply below_drew1) | exact HB.out)))); have n3_ := Aside0.mk (below_step (by repeat (first | (with_reducible first | exact HB.out | apply below_alloc | apply pw_below_drewN | apply below_drew1) | exact HB.out)) hb); clear HO216; clear HO219; clear HB; have HO216 := n0_; have HO219 := n1_; have HO222 := n2_; have HB := n3_; clear n0_ n1_ n2_ n3_; (try clear hb); (try clear hb2); (try clear hk); (try clear hi); (try clear ho0); obtain ⟨Ao15, co15, eo15⟩ := Kd.R_slice HO222.out; subst eo15)))
      go_loopg [9] k (fun kq v9 w' => ∃ (x9_1 : Int), v9 = .int .i64 x9_1 ∧ Aside0 (redactorlaw14_SubstMaps.l0 kq a1 y214 t220 x9_1 = some r) ∧ Aside0 (kq ≤ k) ∧ Aside0 (Kd.R (Kd.int .i32) 24 w' w.heap.size (fun k_ => some k_ ≠ ((.slice Ao15 t220.length co15) : Value).ownBlock) (.slice Ao13 y214.length co13) y214) ∧ Aside0 (Kd.R (Kd.int .i32) 24 w' w.heap.size (fun k_ => some k_ ≠ ((.slice Ao13 y214.length co13) : Value).ownBlock) (.slice Ao15 t220.length co15) t220) ∧ Aside0 (Below w.heap.size w w'))
      case atStart => exact ⟨(0), (by first | rfl | (simp; done) | (simp [*]; done)), H', ⟨Nat.le_refl _⟩, ⟨by (with_reducible repeat (first | apply Kd.R_alloc | apply Kd.R_drewN | apply Kd.R_drew)); exact Kd.R_mono HO216.out (fun _ hk => hk.2)⟩, ⟨by (with_reducible repeat (first | apply Kd.R_alloc | apply Kd.R_drewN | apply Kd.R_drew)); exact Kd.R_mono HO222.out (fun _ hk => hk.2)⟩, ⟨by repeat (first | (with_reducible first | exact HB.out | apply below_alloc | apply pw_below_drewN | apply below_drew1) | exact HB.out)⟩⟩
      case round =>
        clear H'
        try clear c2
        try clear p2
        try clear c4
        try clear c5
        try clear c7
        try clear c7b0
        try clear c7b1
        try clear c7b2
        obtain ⟨x9_1, rfl, HA, HK1, HO_7, HO_8, HB⟩ := hrel
        cases gk with
        | zero => exact absurd HA.out (by simp [redactorlaw14_SubstMaps.l0])
        | succ k1 =>
          have H := HA.out
          clear HA
          simp only [redactorlaw14_SubstMaps.l0] at H
          by_cases c16 : x9_1 < (y214.length : Int)
          · rw [if_pos c16] at H
            have c16b0 : decide (x9_1 < (y214.length : Int)) = true := decide_eq_true c16
            clear c16
            by_cases c17 : 0 ≤ x9_1
            · rw [if_pos c17] at H
              have c17b0 : decide (0 ≤ x9_1) = true := decide_eq_true c17
              clear c17
              by_cases c18 : (rd y214 x9_1) = 97
              · rw [if_pos c18] at H
                have c18b0 : ((rd y214 x9_1) == 97) = true := beq_iff_eq.mpr c18
                have c18b1 : ((rd y214 x9_1) != 97) = false := bne_eq_false_iff_eq.mpr c18
                clear c18
                by_cases c19 : x9_1 < (t220.length : Int)
                · rw [if_pos c19] at H
                  have c19b0 : decide (x9_1 < (t220.length : Int)) = true := decide_eq_true c19
                  clear c19
                  by_cases c20 : (rd t220 x9_1) = a1
                  · rw [if_pos c20] at H
                    have c20b0 : ((rd t220 x9_1) == a1) = true := beq_iff_eq.mpr c20
                    have c20b1 : ((rd t220 x9_1) != a1) = false := bne_eq_false_iff_eq.mpr c20
                    clear c20
                    have H' := Aside0.mk H
                    clear H
                    have p223 : 0 ≤ (x9_1 : Int) := of_decide_eq_true (by first | (with_reducible assumption) | assumption)
                    have q223 : x9_1 < (y214.length : Int) := of_decide_eq_true (by first | (with_reducible assumption) | assumption)
                    obtain ⟨ad223, e223, hx223_0⟩ := Kd.at_int (Kd.R_reads' HO_7.out).2.2 x9_1 p223 q223
                    cases e223
                    replace p223 := eq_true p223
                    replace q223 := eq_true q223
                    have p224 : 0 ≤ (x9_1 : Int) := of_decide_eq_true (by first | (with_reducible assumption) | assumption)
                    have q224 : x9_1 < (t220.length : Int) := of_decide_eq_true (by first | (with_reducible assumption) | assumption)
                    obtain ⟨ad224, e224, hx224_0⟩ := Kd.at_int (Kd.R_reads' HO_8.out).2.2 x9_1 p224 q224
                    cases e224
                    replace p224 := eq_true p224
                    replace q224 := eq_true q224
                    have p225 : 0 ≤ (x9_1 : Int) := of_decide_eq_true (by first | (with_reducible assumption) | assumption)
                    have q225 : x9_1 < (y214.length : Int) := of_decide_eq_true (by first | (with_reducible assumption) | assumption)
                    obtain ⟨ad225, e225, hx225_0⟩ := Kd.at_int (Kd.R_reads' HO_7.out).2.2 x9_1 p225 q225
                    obtain rfl : ad223 = ad225 := (by injection e225)
                    replace p225 := eq_true p225
                    replace q225 := eq_true q225
                    go_wp2
                    repeat (go_quiet (fail); try go_wp2)
                    go_roundg k1
                    case measure => have := HK1.out; omega
                    case rel => exact ⟨(wrap64 (x9_1 + 1)), (by first | rfl | (simp; done) | (simp [*]; done)), H', ⟨by have := HK1.out; omega⟩, ⟨by (with_reducible repeat (first | apply Kd.R_alloc | apply Kd.R_drewN | apply Kd.R_drew)); exact HO_7.out⟩, ⟨by (with_reducible repeat (first | apply Kd.R_alloc | apply Kd.R_drewN | apply Kd.R_drew)); exact HO_8.out⟩, ⟨by repeat (first | (with_reducible first | exact HB.out | apply below_alloc | apply pw_below_drewN | apply below_drew1) | exact HB.out)⟩⟩
                  · rw [if_neg c20] at H
                    have c20b0 : ((rd t220 x9_1) == a1) = false := beq_eq_false_iff_ne.mpr c20
                    have c20b1 : ((rd t220 x9_1) != a1) = true := bne_iff_ne.mpr c20
                    obtain rfl := Option.some.inj H
                    have p223 : 0 ≤ (x9_1 : Int) := of_decide_eq_true (by first | (with_reducible assumption) | assumption)
                    have q223 : x9_1 < (y214.length : Int) := of_decide_eq_true (by first | (with_reducible assumption) | assumption)
                    obtain ⟨ad223, e223, hx223_0⟩ := Kd.at_int (Kd.R_reads' HO_7.out).2.2 x9_1 p223 q223
                    cases e223
                    replace p223 := eq_true p223
                    replace q223 := eq_true q223
                    have p224 : 0 ≤ (x9_1 : Int) := of_decide_eq_true (by first | (with_reducible assumption) | assumption)
                    have q224 : x9_1 < (t220.length : Int) := of_decide_eq_true (by first | (with_reducible assumption) | assumption)
                    obtain ⟨ad224, e224, hx224_0⟩ := Kd.at_int (Kd.R_reads' HO_8.out).2.2 x9_1 p224 q224
                    cases e224
                    replace p224 := eq_true p224
                    replace q224 := eq_true q224
                    go_wp2
                    repeat (go_quiet (fail); try go_wp2)
                    go_ret
                    exact ⟨by first | rfl | (simp [errW_none, errW_some] <;> rfl) | (simp [*, errW_none, errW_some] <;> rfl), by repeat (first | (with_reducible first | exact HB.out | apply below_alloc | apply pw_below_drewN | apply below_drew1) | exact HB.out)⟩
                · rw [if_neg c19] at H
                  exact absurd H (by simp)
              · rw [if_neg c18] at H
                have c18b0 : ((rd y214 x9_1) == 97) = false := beq_eq_false_iff_ne.mpr c18
                have c18b1 : ((rd y214 x9_1) != 97) = true := bne_iff_ne.mpr c18
                by_cases c21 : x9_1 < (t220.length : Int)
                · rw [if_pos c21] at H
                  have c21b0 : decide (x9_1 < (t220.length : Int)) = true := decide_eq_true c21
                  clear c21
                  by_cases c22 : (rd t220 x9_1) = (rd y214 x9_1)
                  · rw [if_pos c22] at H
                    have c22b0 : ((rd t220 x9_1) == (rd y214 x9_1)) = true := beq_iff_eq.mpr c22
                    have c22b1 : ((rd t220 x9_1) != (rd y214 x9_1)) = false := bne_eq_false_iff_eq.mpr c22
                    clear c22
                    have H' := Aside0.mk H
                    clear H
                    have p223 : 0 ≤ (x9_1 : Int) := of_decide_eq_true (by first | (with_reducible assumption) | assumption)
                    have q223 : x9_1 < (y214.length : Int) := of_decide_eq_true (by first | (with_reducible assumption) | assumption)
                    obtain ⟨ad223, e223, hx223_0⟩ := Kd.at_int (Kd.R_reads' HO_7.out).2.2 x9_1 p223 q223
                    cases e223
                    replace p223 := eq_true p223
                    replace q223 := eq_true q223
                    have p226 : 0 ≤ (x9_1 : Int) := of_decide_eq_true (by first | (with_reducible assumption) | assumption)
                    have q226 : x9_1 < (y214.length : Int) := of_decide_eq_true (by first | (with_reducible assumption) | assumption)
                    obtain ⟨ad226, e226, hx226_0⟩ := Kd.at_int (Kd.R_reads' HO_7.out).2.2 x9_1 p226 q226
                    obtain rfl : ad223 = ad226 := (by injection e226)
                    replace p226 := eq_true p226
                    replace q226 := eq_true q226
                    have p227 : 0 ≤ (x9_1 : Int) := of_decide_eq_true (by first | (with_reducible assumption) | assumption)
                    have q227 : x9_1 < (t220.length : Int) := of_decide_eq_true (by first | (with_reducible assumption) | assumption)
                    obtain ⟨ad227, e227, hx227_0⟩ := Kd.at_int (Kd.R_reads' HO_8.out).2.2 x9_1 p227 q227
                    cases e227
                    replace p227 := eq_true p227
                    replace q227 := eq_true q227
                    have p228 : 0 ≤ (x9_1 : Int) := of_decide_eq_true (by first | (with_reducible assumption) | assumption)
                    have q228 : x9_1 < (y214.length : Int) := of_decide_eq_true (by first | (with_reducible assumption) | assumption)
                    obtain ⟨ad228, e228, hx228_0⟩ := Kd.at_int (Kd.R_reads' HO_7.out).2.2 x9_1 p228 q228
                    obtain rfl : ad223 = ad228 := (by injection e228)
                    replace p228 := eq_true p228
                    replace q228 := eq_true q228
                    go_wp2
                    repeat (go_quiet (fail); try go_wp2)
                    go_roundg k1
                    case measure => have := HK1.out; omega
                    case rel => exact ⟨(wrap64 (x9_1 + 1)), (by first | rfl | (simp; done) | (simp [*]; done)), H', ⟨by have := HK1.out; omega⟩, ⟨by (with_reducible repeat (first | apply Kd.R_alloc | apply Kd.R_drewN | apply Kd.R_drew)); exact HO_7.out⟩, ⟨by (with_reducible repeat (first | apply Kd.R_alloc | apply Kd.R_drewN | apply Kd.R_drew)); exact HO_8.out⟩, ⟨by repeat (first | (with_reducible first | exact HB.out | apply below_alloc | apply pw_below_drewN | apply below_drew1) | exact HB.out)⟩⟩
                  · rw [if_neg c22] at H
                    have c22b0 : ((rd t220 x9_1) == (rd y214 x9_1)) = false := beq_eq_false_iff_ne.mpr c22
                    have c22b1 : ((rd t220 x9_1) != (rd y214 x9_1)) = true := bne_iff_ne.mpr c22
                    obtain rfl := Option.some.inj H
                    have p223 : 0 ≤ (x9_1 : Int) := of_decide_eq_true (by first | (with_reducible assumption) | assumption)
                    have q223 : x9_1 < (y214.length : Int) := of_decide_eq_true (by first | (with_reducible assumption) | assumption)
                    obtain ⟨ad223, e223, hx223_0⟩ := Kd.at_int (Kd.R_reads' HO_7.out).2.2 x9_1 p223 q223
                    cases e223
                    replace p223 := eq_true p223
                    replace q223 := eq_true q223
                    have p226 : 0 ≤ (x9_1 : Int) := of_decide_eq_true (by first | (with_reducible assumption) | assumption)
                    have q226 : x9_1 < (y214.length : Int) := of_decide_eq_true (by first | (with_reducible assumption) | assumption)
                    obtain ⟨ad226, e226, hx226_0⟩ := Kd.at_int (Kd.R_reads' HO_7.out).2.2 x9_1 p226 q226
                    obtain rfl : ad223 = ad226 := (by injection e226)
                    replace p226 := eq_true p226
                    replace q226 := eq_true q226
                    have p227 : 0 ≤ (x9_1 : Int) := of_decide_eq_true (by first | (with_reducible assumption) | assumption)
                    have q227 : x9_1 < (t220.length : Int) := of_decide_eq_true (by first | (with_reducible assumption) | assumption)
                    obtain ⟨ad227, e227, hx227_0⟩ := Kd.at_int (Kd.R_reads' HO_8.out).2.2 x9_1 p227 q227
                    cases e227
                    replace p227 := eq_true p227
                    replace q227 := eq_true q227
                    have p228 : 0 ≤ (x9_1 : Int) := of_decide_eq_true (by first | (with_reducible assumption) | assumption)
                    have q228 : x9_1 < (y214.length : Int) := of_decide_eq_true (by first | (with_reducible assumption) | assumption)
                    obtain ⟨ad228, e228, hx228_0⟩ := Kd.at_int (Kd.R_reads' HO_7.out).2.2 x9_1 p228 q228
                    obtain rfl : ad223 = ad228 := (by injection e228)
                    replace p228 := eq_true p228
                    replace q228 := eq_true q228
                    go_wp2
                    repeat (go_quiet (fail); try go_wp2)
                    go_ret
                    exact ⟨by first | rfl | (simp [errW_none, errW_some] <;> rfl) | (simp [*, errW_none, errW_some] <;> rfl), by repeat (first | (with_reducible first | exact HB.out | apply below_alloc | apply pw_below_drewN | apply below_drew1) | exact HB.out)⟩
                · rw [if_neg c21] at H
                  exact absurd H (by simp)
            · rw [if_neg c17] at H
              exact absurd H (by simp)
          · rw [if_neg c16] at H
            have c16b0 : decide (x9_1 < (y214.length : Int)) = false := decide_eq_false c16
            clear c16
            replace H := Option.bind_eq_some_iff.mp H
            obtain ⟨t229, A230, H⟩ := H
            replace H : (if t229 = true then ((subst_Map.f ([] : List (S31)) y214).bind fun t230 => ((redactorref01_Same.f k1 t230 y214).bind fun t233 => (some t233))) else (some false)) = some r := H
            have A23 := Aside0.mk A230
            clear A230
            by_cases c24 : t229 = true
            · subst c24
              have H1 : ((subst_Map.f ([] : List (S31)) y214).bind fun t230 => ((redactorref01_Same.f k1 t230 y214).bind fun t233 => (some t233))) = some r := by rw [if_pos rfl] at H; exact H
              clear H
              have H := H1
              clear H1
              replace H := Option.bind_eq_some_iff.mp H
              obtain ⟨t230, A250, H⟩ := H
              replace H : ((redactorref01_Same.f k1 t230 y214).bind fun t233 => (some t233)) = some r := H
              have A25 := Aside0.mk A250
              clear A250
              replace H := Option.bind_eq_some_iff.mp H
              obtain ⟨t233, A260, H⟩ := H
              replace H : (some t233) = some r := H
              have A26 := Aside0.mk A260
              clear A260
              obtain rfl := Option.some.inj H
              go_wp2_with (first | (go_at_call 11; (with_reducible refine (redactorlaw14_known.calls k1  true _ A23.out).mono ?_); rintro e w27 ⟨rfl, hb⟩; have n0_ := Aside0.mk (Kd.R_below (by (with_reducible repeat (first | apply Kd.R_alloc | apply Kd.R_drewN | apply Kd.R_drew)); exact HO_7.out) hb); have n1_ := Aside0.mk (Kd.R_below (by (with_reducible repeat (first | apply Kd.R_alloc | apply Kd.R_drewN | apply Kd.R_drew)); exact HO_8.out) hb); have n2_ := Aside0.mk (below_step (by repeat (first | (with_reducible first | exact HB.out | apply below_alloc | apply pw_below_drewN | apply below_drew1) | exact HB.out)) hb); clear HO_7; clear HO_8; clear HB; have HO_7 := n0_; have HO_8 := n1_; have HB := n2_; clear n0_ n1_ n2_; (try clear hb); (try clear hb2); (try clear hk); (try clear hi)) | (go_at_call 10; (refine (subst_Map.calls _ _ ([] : List (S31)) _ _ y214 t230 _ ?side1 ?side2 ?side3 ?side4 A25.out).mono ?_); (case side1 => exact Kd.C_nil _ _); (case side2 => exact Nat.le_refl _); (case side3 => repeat (first | exact (Kd.R_reads' HO_7.out).2.2 | (with_reducible refine Kd.C_alloc ?_ _) | (with_reducible refine Kd.C_drewN ?_ _) | (with_reducible refine Kd.C_drew ?_))); (case side4 => exact (Kd.R_reads' HO_7.out).2.1); rintro e w28 ⟨v231, rfl, ho0, hb⟩; have n0_ := Aside0.mk (Kd.R_elder' (by (with_reducible repeat (first | apply Kd.R_alloc | apply Kd.R_drewN | apply Kd.R_drew)); exact HO_7.out) (Kd.R_base ho0) hb); have n1_ := Aside0.mk (Kd.R_elder' (by (with_reducible repeat (first | apply Kd.R_alloc | apply Kd.R_drewN | apply Kd.R_drew)); exact HO_8.out) (Kd.R_base ho0) hb); have n2_ := Aside0.mk (Kd.R_lower (Kd.R_new' (Kd.R_new' ho0 (Kd.R_lt (by (with_reducible repeat (first | apply Kd.R_alloc | apply Kd.R_drewN | apply Kd.R_drew)); exact HO_7.out))) (Kd.R_lt (by (with_reducible repeat (first | apply Kd.R_alloc | apply Kd.R_drewN | apply Kd.R_drew)); exact HO_8.out))) (below_size (by repeat (first | (with_reducible first | exact HB.out | apply below_alloc | apply pw_below_drewN | apply below_drew1) | exact HB.out)))); have n3_ := Aside0.mk (below_step (by repeat (first | (with_reducible first | exact HB.out | apply below_alloc | apply pw_below_drewN | apply below_drew1) | exact HB.out)) hb); clear HO_7; clear HO_8; clear HB; have HO_7 := n0_; have HO_8 := n1_; have HO232 := n2_; have HB := n3_; clear n0_ n1_ n2_ n3_; (try clear hb); (try clear hb2); (try clear hk); (try clear hi); (try clear ho0); obtain ⟨Ao29, co29, eo29⟩ := Kd.R_slice HO232.out; subst eo29) | (go_at_call 12; (with_reducible refine (redactorref01_Same.calls k1 _ _ t230 _ _ y214 t233 _ ?side1 ?side2 ?side3 ?side4 A26.out).mono ?_); (case side1 => repeat (first | exact (Kd.R_reads' HO232.out).2.2 | (with_reducible refine Kd.C_alloc ?_ _) | (with_reducible refine Kd.C_drewN ?_ _) | (with_reducible refine Kd.C_drew ?_))); (case side2 => exact (Kd.R_reads' HO232.out).2.1); (case side3 => repeat (first | exact (Kd.R_reads' HO_7.out).2.2 | (with_reducible refine Kd.C_alloc ?_ _) | (with_reducible refine Kd.C_drewN ?_ _) | (with_reducible refine Kd.C_drew ?_))); (case side4 => exact (Kd.R_reads' HO_7.out).2.1); rintro e w' ⟨rfl, ⟨nd, rfl⟩⟩; (try first | exact ⟨rfl, _, World.drewN_drewN _ _ _⟩ | exact ⟨rfl, _, Eq.trans (World.drewN_drewN _ _ _) (congrArg (World.drewN _) (Nat.add_assoc _ _ _))⟩)))
              repeat (go_quiet (first | (go_at_call 11; (with_reducible refine (redactorlaw14_known.calls k1  true _ A23.out).mono ?_); rintro e w27 ⟨rfl, hb⟩; have n0_ := Aside0.mk (Kd.R_below (by (with_reducible repeat (first | apply Kd.R_alloc | apply Kd.R_drewN | apply Kd.R_drew)); exact HO_7.out) hb); have n1_ := Aside0.mk (Kd.R_below (by (with_reducible repeat (first | apply Kd.R_alloc | apply Kd.R_drewN | apply Kd.R_drew)); exact HO_8.out) hb); have n2_ := Aside0.mk (below_step (by repeat (first | (with_reducible first | exact HB.out | apply below_alloc | apply pw_below_drewN | apply below_drew1) | exact HB.out)) hb); clear HO_7; clear HO_8; clear HB; have HO_7 := n0_; have HO_8 := n1_; have HB := n2_; clear n0_ n1_ n2_; (try clear hb); (try clear hb2); (try clear hk); (try clear hi)) | (go_at_call 10; (refine (subst_Map.calls _ _ ([] : List (S31)) _ _ y214 t230 _ ?side1 ?side2 ?side3 ?side4 A25.out).mono ?_); (case side1 => exact Kd.C_nil _ _); (case side2 => exact Nat.le_refl _); (case side3 => repeat (first | exact (Kd.R_reads' HO_7.out).2.2 | (with_reducible refine Kd.C_alloc ?_ _) | (with_reducible refine Kd.C_drewN ?_ _) | (with_reducible refine Kd.C_drew ?_))); (case side4 => exact (Kd.R_reads' HO_7.out).2.1); rintro e w28 ⟨v231, rfl, ho0, hb⟩; have n0_ := Aside0.mk (Kd.R_elder' (by (with_reducible repeat (first | apply Kd.R_alloc | apply Kd.R_drewN | apply Kd.R_drew)); exact HO_7.out) (Kd.R_base ho0) hb); have n1_ := Aside0.mk (Kd.R_elder' (by (with_reducible repeat (first | apply Kd.R_alloc | apply Kd.R_drewN | apply Kd.R_drew)); exact HO_8.out) (Kd.R_base ho0) hb); have n2_ := Aside0.mk (Kd.R_lower (Kd.R_new' (Kd.R_new' ho0 (Kd.R_lt (by (with_reducible repeat (first | apply Kd.R_alloc | apply Kd.R_drewN | apply Kd.R_drew)); exact HO_7.out))) (Kd.R_lt (by (with_reducible repeat (first | apply Kd.R_alloc | apply Kd.R_drewN | apply Kd.R_drew)); exact HO_8.out))) (below_size (by repeat (first | (with_reducible first | exact HB.out | apply below_alloc | apply pw_below_drewN | apply below_drew1) | exact HB.out)))); have n3_ := Aside0.mk (below_step (by repeat (first | (with_reducible first | exact HB.out | apply below_alloc | apply pw_below_drewN | apply below_drew1) | exact HB.out)) hb); clear HO_7; clear HO_8; clear HB; have HO_7 := n0_; have HO_8 := n1_; have HO232 := n2_; have HB := n3_; clear n0_ n1_ n2_ n3_; (try clear hb); (try clear hb2); (try clear hk); (try clear hi); (try clear ho0); obtain ⟨Ao29, co29, eo29⟩ := Kd.R_slice HO232.out; subst eo29) | (go_at_call 12; (with_reducible refine (redactorref01_Same.calls k1 _ _ t230 _ _ y214 t233 _ ?side1 ?side2 ?side3 ?side4 A26.out).mono ?_); (case side1 => repeat (first | exact (Kd.R_reads' HO232.out).2.2 | (with_reducible refine Kd.C_alloc ?_ _) | (with_reducible refine Kd.C_drewN ?_ _) | (with_reducible refine Kd.C_drew ?_))); (case side2 => exact (Kd.R_reads' HO232.out).2.1); (case side3 => repeat (first | exact (Kd.R_reads' HO_7.out).2.2 | (with_reducible refine Kd.C_alloc ?_ _) | (with_reducible refine Kd.C_drewN ?_ _) | (with_reducible refine Kd.C_drew ?_))); (case side4 => exact (Kd.R_reads' HO_7.out).2.1); rintro e w' ⟨rfl, ⟨nd, rfl⟩⟩; (try first | exact ⟨rfl, _, World.drewN_drewN _ _ _⟩ | exact ⟨rfl, _, Eq.trans (World.drewN_drewN _ _ _) (congrArg (World.drewN _) (Nat.add_assoc _ _ _))⟩))); try go_wp2_with (first | (go_at_call 11; (with_reducible refine (redactorlaw14_known.calls k1  true _ A23.out).mono ?_); rintro e w27 ⟨rfl, hb⟩; have n0_ := Aside0.mk (Kd.R_below (by (with_reducible repeat (first | apply Kd.R_alloc | apply Kd.R_drewN | apply Kd.R_drew)); exact HO_7.out) hb); have n1_ := Aside0.mk (Kd.R_below (by (with_reducible repeat (first | apply Kd.R_alloc | apply Kd.R_drewN | apply Kd.R_drew)); exact HO_8.out) hb); have n2_ := Aside0.mk (below_step (by repeat (first | (with_reducible first | exact HB.out | apply below_alloc | apply pw_below_drewN | apply below_drew1) | exact HB.out)) hb); clear HO_7; clear HO_8; clear HB; have HO_7 := n0_; have HO_8 := n1_; have HB := n2_; clear n0_ n1_ n2_; (try clear hb); (try clear hb2); (try clear hk); (try clear hi)) | (go_at_call 10; (refine (subst_Map.calls _ _ ([] : List (S31)) _ _ y214 t230 _ ?side1 ?side2 ?side3 ?side4 A25.out).mono ?_); (case side1 => exact Kd.C_nil _ _); (case side2 => exact Nat.le_refl _); (case side3 => repeat (first | exact (Kd.R_reads' HO_7.out).2.2 | (with_reducible refine Kd.C_alloc ?_ _) | (with_reducible refine Kd.C_drewN ?_ _) | (with_reducible refine Kd.C_drew ?_))); (case side4 => exact (Kd.R_reads' HO_7.out).2.1); rintro e w28 ⟨v231, rfl, ho0, hb⟩; have n0_ := Aside0.mk (Kd.R_elder' (by (with_reducible repeat (first | apply Kd.R_alloc | apply Kd.R_drewN | apply Kd.R_drew)); exact HO_7.out) (Kd.R_base ho0) hb); have n1_ := Aside0.mk (Kd.R_elder' (by (with_reducible repeat (first | apply Kd.R_alloc | apply Kd.R_drewN | apply Kd.R_drew)); exact HO_8.out) (Kd.R_base ho0) hb); have n2_ := Aside0.mk (Kd.R_lower (Kd.R_new' (Kd.R_new' ho0 (Kd.R_lt (by (with_reducible repeat (first | apply Kd.R_alloc | apply Kd.R_drewN | apply Kd.R_drew)); exact HO_7.out))) (Kd.R_lt (by (with_reducible repeat (first | apply Kd.R_alloc | apply Kd.R_drewN | apply Kd.R_drew)); exact HO_8.out))) (below_size (by repeat (first | (with_reducible first | exact HB.out | apply below_alloc | apply pw_below_drewN | apply below_drew1) | exact HB.out)))); have n3_ := Aside0.mk (below_step (by repeat (first | (with_reducible first | exact HB.out | apply below_alloc | apply pw_below_drewN | apply below_drew1) | exact HB.out)) hb); clear HO_7; clear HO_8; clear HB; have HO_7 := n0_; have HO_8 := n1_; have HO232 := n2_; have HB := n3_; clear n0_ n1_ n2_ n3_; (try clear hb); (try clear hb2); (try clear hk); (try clear hi); (try clear ho0); obtain ⟨Ao29, co29, eo29⟩ := Kd.R_slice HO232.out; subst eo29) | (go_at_call 12; (with_reducible refine (redactorref01_Same.calls k1 _ _ t230 _ _ y214 t233 _ ?side1 ?side2 ?side3 ?side4 A26.out).mono ?_); (case side1 => repeat (first | exact (Kd.R_reads' HO232.out).2.2 | (with_reducible refine Kd.C_alloc ?_ _) | (with_reducible refine Kd.C_drewN ?_ _) | (with_reducible refine Kd.C_drew ?_))); (case side2 => exact (Kd.R_reads' HO232.out).2.1); (case side3 => repeat (first | exact (Kd.R_reads' HO_7.out).2.2 | (with_reducible refine Kd.C_alloc ?_ _) | (with_reducible refine Kd.C_drewN ?_ _) | (with_reducible refine Kd.C_drew ?_))); (case side4 => exact (Kd.R_reads' HO_7.out).2.1); rintro e w' ⟨rfl, ⟨nd, rfl⟩⟩; (try first | exact ⟨rfl, _, World.drewN_drewN _ _ _⟩ | exact ⟨rfl, _, Eq.trans (World.drewN_drewN _ _ _) (congrArg (World.drewN _) (Nat.add_assoc _ _ _))⟩))))
              go_ret
              exact ⟨by first | rfl | (simp [errW_none, errW_some] <;> rfl) | (simp [*, errW_none, errW_some] <;> rfl), by repeat (first | (with_reducible first | exact HB.out | apply below_alloc | apply pw_below_drewN | apply below_drew1) | exact HB.out)⟩
            · replace c24 := Bool.eq_false_iff.mpr c24
              subst c24
              have H1 : (some false) = some r := by rw [if_neg (show ¬ (false = true) by decide)] at H; exact H
              clear H
              have H := H1
              clear H1
              obtain rfl := Option.some.inj H
              go_wp2_with (first | (go_at_call 11; (with_reducible refine (redactorlaw14_known.calls k1  false _ A23.out).mono ?_); rintro e w30 ⟨rfl, hb⟩; have n0_ := Aside0.mk (Kd.R_below (by (with_reducible repeat (first | apply Kd.R_alloc | apply Kd.R_drewN | apply Kd.R_drew)); exact HO_7.out) hb); have n1_ := Aside0.mk (Kd.R_below (by (with_reducible repeat (first | apply Kd.R_alloc | apply Kd.R_drewN | apply Kd.R_drew)); exact HO_8.out) hb); have n2_ := Aside0.mk (below_step (by repeat (first | (with_reducible first | exact HB.out | apply below_alloc | apply pw_below_drewN | apply below_drew1) | exact HB.out)) hb); clear HO_7; clear HO_8; clear HB; have HO_7 := n0_; have HO_8 := n1_; have HB := n2_; clear n0_ n1_ n2_; (try clear hb); (try clear hb2); (try clear hk); (try clear hi)))
              repeat (go_quiet (first | (go_at_call 11; (with_reducible refine (redactorlaw14_known.calls k1  false _ A23.out).mono ?_); rintro e w30 ⟨rfl, hb⟩; have n0_ := Aside0.mk (Kd.R_below (by (with_reducible repeat (first | apply Kd.R_alloc | apply Kd.R_drewN | apply Kd.R_drew)); exact HO_7.out) hb); have n1_ := Aside0.mk (Kd.R_below (by (with_reducible repeat (first | apply Kd.R_alloc | apply Kd.R_drewN | apply Kd.R_drew)); exact HO_8.out) hb); have n2_ := Aside0.mk (below_step (by repeat (first | (with_reducible first | exact HB.out | apply below_alloc | apply pw_below_drewN | apply below_drew1) | exact HB.out)) hb); clear HO_7; clear HO_8; clear HB; have HO_7 := n0_; have HO_8 := n1_; have HB := n2_; clear n0_ n1_ n2_; (try clear hb); (try clear hb2); (try clear hk); (try clear hi))); try go_wp2_with (first | (go_at_call 11; (with_reducible refine (redactorlaw14_known.calls k1  false _ A23.out).mono ?_); rintro e w30 ⟨rfl, hb⟩; have n0_ := Aside0.mk (Kd.R_below (by (with_reducible repeat (first | apply Kd.R_alloc | apply Kd.R_drewN | apply Kd.R_drew)); exact HO_7.out) hb); have n1_ := Aside0.mk (Kd.R_below (by (with_reducible repeat (first | apply Kd.R_alloc | apply Kd.R_drewN | apply Kd.R_drew)); exact HO_8.out) hb); have n2_ := Aside0.mk (below_step (by repeat (first | (with_reducible first | exact HB.out | apply below_alloc | apply pw_below_drewN | apply below_drew1) | exact HB.out)) hb); clear HO_7; clear HO_8; clear HB; have HO_7 := n0_; have HO_8 := n1_; have HB := n2_; clear n0_ n1_ n2_; (try clear hb); (try clear hb2); (try clear hk); (try clear hi))))
              go_ret
              exact ⟨by first | rfl | (simp [errW_none, errW_some] <;> rfl) | (simp [*, errW_none, errW_some] <;> rfl), by repeat (first | (with_reducible first | exact HB.out | apply below_alloc | apply pw_below_drewN | apply below_drew1) | exact HB.out)⟩
    · rw [if_neg c7] at H
      have c7b0 : ((t220.length : Int) == (y214.length : Int)) = false := beq_eq_false_iff_ne.mpr c7
      have c7b1 : ((t220.length : Int) != (y214.length : Int)) = true := bne_iff_ne.mpr c7
      have c7b2 : (t220.length == y214.length) = false := by first | simpa using c7 | (simp at c7 ⊢; omega)
      obtain rfl := Option.some.inj H
      go_enter Try.func4, Try.ntmps4
      go_wp2_with (first | (go_at_call 13; (with_reducible refine (redactorlaw01_Cells.calls k _ _ l0 t211 _ ?side1 ?side2 A4.out).mono ?_); (case side1 => repeat (first | exact HR0.out | (with_reducible refine Kd.C_alloc ?_ _) | (with_reducible refine Kd.C_drewN ?_ _) | (with_reducible refine Kd.C_drew ?_))); (case side2 => exact HC0.out); rintro e w31 ⟨v212, rfl, ho0, hb⟩; have n0_ := Aside0.mk (Kd.R_lower ho0 (below_size (by repeat (first | (with_reducible first | exact HB.out | apply below_alloc | apply pw_below_drewN | apply below_drew1) | exact HB.out)))); have n1_ := Aside0.mk (below_step (by repeat (first | (with_reducible first | exact HB.out | apply below_alloc | apply pw_below_drewN | apply below_drew1) | exact HB.out)) hb); clear HB; have HO213 := n0_; have HB := n1_; clear n0_ n1_; (try clear hb); (try clear hb2); (try clear hk); (try clear hi); (try clear ho0)) | ((with_reducible refine gate_builtin (b := .append) (xs := #[.tmp 12, .tmp 13]) rfl ?_); at_builtin; refine Kd.R_append (Kd.int .i32) (w0 := w) w.heap.size rfl (.tmp 12) (.tmp 13) 23 24 (.int .i32 0) 4 rfl Try.underlying23 info24 rfl (by decide) (by omega) v212 t211 97 [.int .i32 97] (fun _ => True) (fun _ => False) rfl rfl ?aP (fun _ hk => hk.elim) ?aF ?aO ?aB ?aS ?aL ?_; (case aP => exact rfl); (case aB => exact (by repeat (first | (with_reducible first | exact HB.out | apply below_alloc | apply pw_below_drewN | apply below_drew1) | exact HB.out))); (case aF => exact (fun _ _ => trivial)); (case aO => exact (by (with_reducible repeat (first | apply Kd.R_alloc | apply Kd.R_drewN | apply Kd.R_drew)); exact HO213.out)); (case aS => exact (below_size (by repeat (first | (with_reducible first | exact HB.out | apply below_alloc | apply pw_below_drewN | apply below_drew1) | exact HB.out)))); (case aL => have := LMc5.out; omega); intro v215 w32 ho hb hg hat; rw [← Ny214.out] at ho; have n0_ := Aside0.mk (hb); have n1_ := Aside0.mk (ho); clear HB; clear HO213; have HB := n0_; have HO216 := n1_; clear n0_ n1_; clear ho hb hg hat) | ((with_reducible refine gate_dst (N := 19) rfl ?_); refine Kd.R_lit k31 _ 31 ?hg (N := 19) ?hd (xs := ([(⟨97, a1⟩ : S31), (⟨97, a2⟩ : S31)] : List (S31))) (inner := [.int .i32 97, .int .i32 a1, .int .i32 97, .int .i32 a2]) (ok := fun _ => True) (okp := fun _ => True) ?hr ?hp (fun _ hk => hk) trivial (Below.refl _ _) (Nat.le_refl _) (by simp) ?_; (case hd => rfl); (case hg => rfl); (case hr => first | (go_simp; done) | (go_simp; rfl)); (case hp => exact (Reps.c2 (show Kd.M k31 _ _ _ (⟨97, a1⟩ : S31) [.int .i32 97, .int .i32 a1] from (k31_mkM _ _ _ (⟨97, a1⟩ : S31) )) (Reps.c2 (show Kd.M k31 _ _ _ (⟨97, a2⟩ : S31) [.int .i32 97, .int .i32 a2] from (k31_mkM _ _ _ (⟨97, a2⟩ : S31) )) (Reps.none _ _)))); intro v218 w33 ho34 hb hg_ hnew_; clear hg_ hnew_; (first | rw [← Ny217.out] at ho34 | (simp only [Int.reduceToNat] at ho34; rw [← Ny217.out] at ho34)); have n0_ := Aside0.mk (Kd.R_below (by (with_reducible repeat (first | apply Kd.R_alloc | apply Kd.R_drewN | apply Kd.R_drew)); exact HO216.out) hb); have n1_ := Aside0.mk (Kd.R_lower ho34 (below_size (by repeat (first | (with_reducible first | exact HB.out | apply below_alloc | apply pw_below_drewN | apply below_drew1) | exact HB.out)))); have n2_ := Aside0.mk (below_step (by repeat (first | (with_reducible first | exact HB.out | apply below_alloc | apply pw_below_drewN | apply below_drew1) | exact HB.out)) hb); clear HO216; clear HB; have HO216 := n0_; have HO219 := n1_; have HB := n2_; clear n0_ n1_ n2_; clear hb ho34; obtain ⟨Ao35, co35, eo35⟩ := Kd.R_slice HO219.out; subst eo35; obtain ⟨Ao36, co36, eo36⟩ := Kd.R_slice HO216.out; subst eo36) | (go_at_call 10; (with_reducible refine (subst_Map.calls _ _ y217 _ _ y214 t220 _ ?side1 ?side2 ?side3 ?side4 A6.out).mono ?_); (case side1 => repeat (first | exact (Kd.R_reads' HO219.out).2.2 | (with_reducible refine Kd.C_alloc ?_ _) | (with_reducible refine Kd.C_drewN ?_ _) | (with_reducible refine Kd.C_drew ?_))); (case side2 => exact (Kd.R_reads' HO219.out).2.1); (case side3 => repeat (first | exact (Kd.R_reads' HO216.out).2.2 | (with_reducible refine Kd.C_alloc ?_ _) | (with_reducible refine Kd.C_drewN ?_ _) | (with_reducible refine Kd.C_drew ?_))); (case side4 => exact (Kd.R_reads' HO216.out).2.1); rintro e w37 ⟨v221, rfl, ho0, hb⟩; have n0_ := Aside0.mk (Kd.R_elder' (by (with_reducible repeat (first | apply Kd.R_alloc | apply Kd.R_drewN | apply Kd.R_drew)); exact HO216.out) (Kd.R_base ho0) hb); have n1_ := Aside0.mk (Kd.R_below (by (with_reducible repeat (first | apply Kd.R_alloc | apply Kd.R_drewN | apply Kd.R_drew)); exact HO219.out) hb); have n2_ := Aside0.mk (Kd.R_lower (Kd.R_new' ho0 (Kd.R_lt (by (with_reducible repeat (first | apply Kd.R_alloc | apply Kd.R_drewN | apply Kd.R_drew)); exact HO216.out))) (below_size (by repeat (first | (with_reducible first | exact HB.out | apply below_alloc | apply pw_below_drewN | apply below_drew1) | exact HB.out)))); have n3_ := Aside0.mk (below_step (by repeat (first | (with_reducible first | exact HB.out | apply below_alloc | apply pw_below_drewN | apply below_drew1) | exact HB.out)) hb); clear HO216; clear HO219; clear HB; have HO216 := n0_; have HO219 := n1_; have HO222 := n2_; have HB := n3_; clear n0_ n1_ n2_ n3_; (try clear hb); (try clear hb2); (try clear hk); (try clear hi); (try clear ho0); obtain ⟨Ao38, co38, eo38⟩ := Kd.R_slice HO222.out; subst eo38))
      repeat (go_quiet (first | (go_at_call 13; (with_reducible refine (redactorlaw01_Cells.calls k _ _ l0 t211 _ ?side1 ?side2 A4.out).mono ?_); (case side1 => repeat (first | exact HR0.out | (with_reducible refine Kd.C_alloc ?_ _) | (with_reducible refine Kd.C_drewN ?_ _) | (with_reducible refine Kd.C_drew ?_))); (case side2 => exact HC0.out); rintro e w31 ⟨v212, rfl, ho0, hb⟩; have n0_ := Aside0.mk (Kd.R_lower ho0 (below_size (by repeat (first | (with_reducible first | exact HB.out | apply below_alloc | apply pw_below_drewN | apply below_drew1) | exact HB.out)))); have n1_ := Aside0.mk (below_step (by repeat (first | (with_reducible first | exact HB.out | apply below_alloc | apply pw_below_drewN | apply below_drew1) | exact HB.out)) hb); clear HB; have HO213 := n0_; have HB := n1_; clear n0_ n1_; (try clear hb); (try clear hb2); (try clear hk); (try clear hi); (try clear ho0)) | ((with_reducible refine gate_builtin (b := .append) (xs := #[.tmp 12, .tmp 13]) rfl ?_); at_builtin; refine Kd.R_append (Kd.int .i32) (w0 := w) w.heap.size rfl (.tmp 12) (.tmp 13) 23 24 (.int .i32 0) 4 rfl Try.underlying23 info24 rfl (by decide) (by omega) v212 t211 97 [.int .i32 97] (fun _ => True) (fun _ => False) rfl rfl ?aP (fun _ hk => hk.elim) ?aF ?aO ?aB ?aS ?aL ?_; (case aP => exact rfl); (case aB => exact (by repeat (first | (with_reducible first | exact HB.out | apply below_alloc | apply pw_below_drewN | apply below_drew1) | exact HB.out))); (case aF => exact (fun _ _ => trivial)); (case aO => exact (by (with_reducible repeat (first | apply Kd.R_alloc | apply Kd.R_drewN | apply Kd.R_drew)); exact HO213.out)); (case aS => exact (below_size (by repeat (first | (with_reducible first | exact HB.out | apply below_alloc | apply pw_below_drewN | apply below_drew1) | exact HB.out)))); (case aL => have := LMc5.out; omega); intro v215 w32 ho hb hg hat; rw [← Ny214.out] at ho; have n0_ := Aside0.mk (hb); have n1_ := Aside0.mk (ho); clear HB; clear HO213; have HB := n0_; have HO216 := n1_; clear n0_ n1_; clear ho hb hg hat) | ((with_reducible refine gate_dst (N := 19) rfl ?_); refine Kd.R_lit k31 _ 31 ?hg (N := 19) ?hd (xs := ([(⟨97, a1⟩ : S31), (⟨97, a2⟩ : S31)] : List (S31))) (inner := [.int .i32 97, .int .i32 a1, .int .i32 97, .int .i32 a2]) (ok := fun _ => True) (okp := fun _ => True) ?hr ?hp (fun _ hk => hk) trivial (Below.refl _ _) (Nat.le_refl _) (by simp) ?_; (case hd => rfl); (case hg => rfl); (case hr => first | (go_simp; done) | (go_simp; rfl)); (case hp => exact (Reps.c2 (show Kd.M k31 _ _ _ (⟨97, a1⟩ : S31) [.int .i32 97, .int .i32 a1] from (k31_mkM _ _ _ (⟨97, a1⟩ : S31) )) (Reps.c2 (show Kd.M k31 _ _ _ (⟨97, a2⟩ : S31) [.int .i32 97, .int .i32 a2] from (k31_mkM _ _ _ (⟨97, a2⟩ : S31) )) (Reps.none _ _)))); intro v218 w33 ho34 hb hg_ hnew_; clear hg_ hnew_; (first | rw [← Ny217.out] at ho34 | (simp only [Int.reduceToNat] at ho34; rw [← Ny217.out] at ho34)); have n0_ := Aside0.mk (Kd.R_below (by (with_reducible repeat (first | apply Kd.R_alloc | apply Kd.R_drewN | apply Kd.R_drew)); exact HO216.out) hb); have n1_ := Aside0.mk (Kd.R_lower ho34 (below_size (by repeat (first | (with_reducible first | exact HB.out | apply below_alloc | apply pw_below_drewN | apply below_drew1) | exact HB.out)))); have n2_ := Aside0.mk (below_step (by repeat (first | (with_reducible first | exact HB.out | apply below_alloc | apply pw_below_drewN | apply below_drew1) | exact HB.out)) hb); clear HO216; clear HB; have HO216 := n0_; have HO219 := n1_; have HB := n2_; clear n0_ n1_ n2_; clear hb ho34; obtain ⟨Ao35, co35, eo35⟩ := Kd.R_slice HO219.out; subst eo35; obtain ⟨Ao36, co36, eo36⟩ := Kd.R_slice HO216.out; subst eo36) | (go_at_call 10; (with_reducible refine (subst_Map.calls _ _ y217 _ _ y214 t220 _ ?side1 ?side2 ?side3 ?side4 A6.out).mono ?_); (case side1 => repeat (first | exact (Kd.R_reads' HO219.out).2.2 | (with_reducible refine Kd.C_alloc ?_ _) | (with_reducible refine Kd.C_drewN ?_ _) | (with_reducible refine Kd.C_drew ?_))); (case side2 => exact (Kd.R_reads' HO219.out).2.1); (case side3 => repeat (first | exact (Kd.R_reads' HO216.out).2.2 | (with_reducible refine Kd.C_alloc ?_ _) | (with_reducible refine Kd.C_drewN ?_ _) | (with_reducible refine Kd.C_drew ?_))); (case side4 => exact (Kd.R_reads' HO216.out).2.1); rintro e w37 ⟨v221, rfl, ho0, hb⟩; have n0_ := Aside0.mk (Kd.R_elder' (by (with_reducible repeat (first | apply Kd.R_alloc | apply Kd.R_drewN | apply Kd.R_drew)); exact HO216.out) (Kd.R_base ho0) hb); have n1_ := Aside0.mk (Kd.R_below (by (with_reducible repeat (first | apply Kd.R_alloc | apply Kd.R_drewN | apply Kd.R_drew)); exact HO219.out) hb); have n2_ := Aside0.mk (Kd.R_lower (Kd.R_new' ho0 (Kd.R_lt (by (with_reducible repeat (first | apply Kd.R_alloc | apply Kd.R_drewN | apply Kd.R_drew)); exact HO216.out))) (below_size (by repeat (first | (with_reducible first | exact HB.out | apply below_alloc | apply pw_below_drewN | apply below_drew1) | exact HB.out)))); have n3_ := Aside0.mk (below_step (by repeat (first | (with_reducible first | exact HB.out | apply below_alloc | apply pw_below_drewN | apply below_drew1) | exact HB.out)) hb); clear HO216; clear HO219; clear HB; have HO216 := n0_; have HO219 := n1_; have HO222 := n2_; have HB := n3_; clear n0_ n1_ n2_ n3_; (try clear hb); (try clear hb2); (try clear hk); (try clear hi); (try clear ho0); obtain ⟨Ao38, co38, eo38⟩ := Kd.R_slice HO222.out; subst eo38)); try go_wp2_with (first | (go_at_call 13; (with_reducible refine (redactorlaw01_Cells.calls k _ _ l0 t211 _ ?side1 ?side2 A4.out).mono ?_); (case side1 => repeat (first | exact HR0.out | (with_reducible refine Kd.C_alloc ?_ _) | (with_reducible refine Kd.C_drewN ?_ _) | (with_reducible refine Kd.C_drew ?_))); (case side2 => exact HC0.out); rintro e w31 ⟨v212, rfl, ho0, hb⟩; have n0_ := Aside0.mk (Kd.R_lower ho0 (below_size (by repeat (first | (with_reducible first | exact HB.out | apply below_alloc | apply pw_below_drewN | apply below_drew1) | exact HB.out)))); have n1_ := Aside0.mk (below_step (by repeat (first | (with_reducible first | exact HB.out | apply below_alloc | apply pw_below_drewN | apply below_drew1) | exact HB.out)) hb); clear HB; have HO213 := n0_; have HB := n1_; clear n0_ n1_; (try clear hb); (try clear hb2); (try clear hk); (try clear hi); (try clear ho0)) | ((with_reducible refine gate_builtin (b := .append) (xs := #[.tmp 12, .tmp 13]) rfl ?_); at_builtin; refine Kd.R_append (Kd.int .i32) (w0 := w) w.heap.size rfl (.tmp 12) (.tmp 13) 23 24 (.int .i32 0) 4 rfl Try.underlying23 info24 rfl (by decide) (by omega) v212 t211 97 [.int .i32 97] (fun _ => True) (fun _ => False) rfl rfl ?aP (fun _ hk => hk.elim) ?aF ?aO ?aB ?aS ?aL ?_; (case aP => exact rfl); (case aB => exact (by repeat (first | (with_reducible first | exact HB.out | apply below_alloc | apply pw_below_drewN | apply below_drew1) | exact HB.out))); (case aF => exact (fun _ _ => trivial)); (case aO => exact (by (with_reducible repeat (first | apply Kd.R_alloc | apply Kd.R_drewN | apply Kd.R_drew)); exact HO213.out)); (case aS => exact (below_size (by repeat (first | (with_reducible first | exact HB.out | apply below_alloc | apply pw_below_drewN | apply below_drew1) | exact HB.out)))); (case aL => have := LMc5.out; omega); intro v215 w32 ho hb hg hat; rw [← Ny214.out] at ho; have n0_ := Aside0.mk (hb); have n1_ := Aside0.mk (ho); clear HB; clear HO213; have HB := n0_; have HO216 := n1_; clear n0_ n1_; clear ho hb hg hat) | ((with_reducible refine gate_dst (N := 19) rfl ?_); refine Kd.R_lit k31 _ 31 ?hg (N := 19) ?hd (xs := ([(⟨97, a1⟩ : S31), (⟨97, a2⟩ : S31)] : List (S31))) (inner := [.int .i32 97, .int .i32 a1, .int .i32 97, .int .i32 a2]) (ok := fun _ => True) (okp := fun _ => True) ?hr ?hp (fun _ hk => hk) trivial (Below.refl _ _) (Nat.le_refl _) (by simp) ?_; (case hd => rfl); (case hg => rfl); (case hr => first | (go_simp; done) | (go_simp; rfl)); (case hp => exact (Reps.c2 (show Kd.M k31 _ _ _ (⟨97, a1⟩ : S31) [.int .i32 97, .int .i32 a1] from (k31_mkM _ _ _ (⟨97, a1⟩ : S31) )) (Reps.c2 (show Kd.M k31 _ _ _ (⟨97, a2⟩ : S31) [.int .i32 97, .int .i32 a2] from (k31_mkM _ _ _ (⟨97, a2⟩ : S31) )) (Reps.none _ _)))); intro v218 w33 ho34 hb hg_ hnew_; clear hg_ hnew_; (first | rw [← Ny217.out] at ho34 | (simp only [Int.reduceToNat] at ho34; rw [← Ny217.out] at ho34)); have n0_ := Aside0.mk (Kd.R_below (by (with_reducible repeat (first | apply Kd.R_alloc | apply Kd.R_drewN | apply Kd.R_drew)); exact HO216.out) hb); have n1_ := Aside0.mk (Kd.R_lower ho34 (below_size (by repeat (first | (with_reducible first | exact HB.out | apply below_alloc | apply pw_below_drewN | apply below_drew1) | exact HB.out)))); have n2_ := Aside0.mk (below_step (by repeat (first | (with_reducible first | exact HB.out | apply below_alloc | apply pw_below_drewN | apply below_drew1) | exact HB.out)) hb); clear HO216; clear HB; have HO216 := n0_; have HO219 := n1_; have HB := n2_; clear n0_ n1_ n2_; clear hb ho34; obtain ⟨Ao35, co35, eo35⟩ := Kd.R_slice HO219.out; subst eo35; obtain ⟨Ao36, co36, eo36⟩ := Kd.R_slice HO216.out; subst eo36) | (go_at_call 10; (with_reducible refine (subst_Map.calls _ _ y217 _ _ y214 t220 _ ?side1 ?side2 ?side3 ?side4 A6.out).mono ?_); (case side1 => repeat (first | exact (Kd.R_reads' HO219.out).2.2 | (with_reducible refine Kd.C_alloc ?_ _) | (with_reducible refine Kd.C_drewN ?_ _) | (with_reducible refine Kd.C_drew ?_))); (case side2 => exact (Kd.R_reads' HO219.out).2.1); (case side3 => repeat (first | exact (Kd.R_reads' HO216.out).2.2 | (with_reducible refine Kd.C_alloc ?_ _) | (with_reducible refine Kd.C_drewN ?_ _) | (with_reducible refine Kd.C_drew ?_))); (case side4 => exact (Kd.R_reads' HO216.out).2.1); rintro e w37 ⟨v221, rfl, ho0, hb⟩; have n0_ := Aside0.mk (Kd.R_elder' (by (with_reducible repeat (first | apply Kd.R_alloc | apply Kd.R_drewN | apply Kd.R_drew)); exact HO216.out) (Kd.R_base ho0) hb); have n1_ := Aside0.mk (Kd.R_below (by (with_reducible repeat (first | apply Kd.R_alloc | apply Kd.R_drewN | apply Kd.R_drew)); exact HO219.out) hb); have n2_ := Aside0.mk (Kd.R_lower (Kd.R_new' ho0 (Kd.R_lt (by (with_reducible repeat (first | apply Kd.R_alloc | apply Kd.R_drewN | apply Kd.R_drew)); exact HO216.out))) (below_size (by repeat (first | (with_reducible first | exact HB.out | apply below_alloc | apply pw_below_drewN | apply below_drew1) | exact HB.out)))); have n3_ := Aside0.mk (below_step (by repeat (first | (with_reducible first | exact HB.out | apply below_alloc | apply pw_below_drewN | apply below_drew1) | exact HB.out)) hb); clear HO216; clear HO219; clear HB; have HO216 := n0_; have HO219 := n1_; have HO222 := n2_; have HB := n3_; clear n0_ n1_ n2_ n3_; (try clear hb); (try clear hb2); (try clear hk); (try clear hi); (try clear ho0); obtain ⟨Ao38, co38, eo38⟩ := Kd.R_slice HO222.out; subst eo38)))
      go_ret
      exact ⟨by first | rfl | (simp [errW_none, errW_some] <;> rfl) | (simp [*, errW_none, errW_some] <;> rfl), by repeat (first | (with_reducible first | exact HB.out | apply below_alloc | apply pw_below_drewN | apply below_drew1) | exact HB.out)⟩
  · rw [if_neg c5] at H
    exact absurd H (by simp)

/-- THE ONE PURE STATEMENT of redactorlaw14_SubstMaps: yours. -/
def redactorlaw14_SubstMaps.Pure : Prop := ∀ (l0 : List Int) (a1 : Int) (a2 : Int), l0.length ≤ maxLen → l0.length * 1 ≤ 140737488351232 → (∀ x ∈ l0, (Lit.int .u8 x).wf = true) → (Lit.int .i32 a1).wf = true → (Lit.int .i32 a2).wf = true → ∃ k, redactorlaw14_SubstMaps.f k l0 a1 a2 = some true
theorem redactorlaw14_SubstMaps.walk (P : redactorlaw14_SubstMaps.Pure) (a0 : Option Addr) (len0 cap0 : Nat) (z0 : List Int) (a1 : Int) (a2 : Int) (w : World) (w0 : (a0 = none ∧ len0 = 0 ∧ cap0 = 0 ∧ z0 = []) ∨ ∃ x, a0 = some x ∧ len0 ≤ cap0 ∧ cap0 ≤ maxLen ∧ z0.length = cap0 ∧ (∀ i, i < z0.length → w.cell? (x.add i) = some (.int .u8 (z0.getD i 0))) ∧ ∀ n ∈ z0, (Lit.int .u8 n).wf = true) (y0 : len0 * 1 ≤ 140737488351232) (w1 : (Lit.int .i32 a1).wf = true) (w2 : (Lit.int .i32 a2).wf = true) :
    Calls Try.prog 4 #[.slice a0 len0 cap0, .int .i32 a1, .int .i32 a2] w fun e w' => e = .returned (.bool true) ∧ Below w.heap.size w w' := by
  obtain ⟨l0, rfl, hr0, hm0, hw0, hc0⟩ := ReadsInt.ofRowC w0
  obtain ⟨k, h⟩ := P l0 a1 a2 hm0 y0 hw0 w1 w2
  refine (redactorlaw14_SubstMaps.calls k _ _ l0 a1 a2 true w (Kd.C_of_reads (d := (0 : Int)) (h1 := fun _ => rfl) hr0) hc0 h).mono ?_
  rintro e w' ⟨rfl, hd⟩
  exact ⟨rfl, hd⟩

end Go.Proofs.Ytfgccmgfkfhfcaa.PAll
