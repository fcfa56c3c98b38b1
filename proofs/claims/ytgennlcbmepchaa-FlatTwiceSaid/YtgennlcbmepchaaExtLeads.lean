/- FlatLeads' walk. (Written by wip/flat/gen_leads.py.) -/
import Derived.Test.YtgennlcbmepchaaExtCmds
import Derived.Test.YtgennlcbmepchaaExtGood
namespace Go.Proofs.Ytgennlcbmepchaa.PAll
open Go.RowKit Go.Maps Go.WideMaps Go.Proofs.YtgennlcbmepchaaW.PrintWords Go.Proofs.YtgennlcbmepchaaW.PrintLast Go.Proofs.YtgennlcbmepchaaW.PrintMore
set_option linter.unusedVariables false
set_option linter.unusedSimpArgs false
theorem N_cmd {w : World} {base n c k g : Nat} {ok : Nat → Prop} {xs : List S32} (h : Kd.N k32 32 w base ok (.slice (some ⟨g, 0, none⟩) n c) xs) (hk : k < xs.length) : w.cell? ⟨g, k * 28 + 13, none⟩ = some (.int .u8 (at32 xs k).f3) ∧ w.cell? ⟨g, k * 28 + 15, none⟩ = some (.string (at32 xs k).f5) ∧ w.cell? ⟨g, k * 28 + 26, none⟩ = some (.int .i64 (at32 xs k).f15) := by
  obtain ⟨_, _, hC⟩ := Kd.N_reads' h
  obtain ⟨ad, A2, c2, A8, c8, A14, c14, A17, c17, A21, c21, A25, c25, e, _, _, _, _, _, _, _, _, _, _, _, _, _, h13, _, h15, _, _, _, _, _, _, _, _, _, _, h26, _⟩ := at_T32 hC (k : Int) (by omega) (by omega)
  cases e
  by_cases hk0 : k = 0
  · subst hk0; exact ⟨by simpa [Addr.add, rd_T32, at32] using h13, by simpa [Addr.add, rd_T32, at32] using h15, by simpa [Addr.add, rd_T32, at32] using h26⟩
  · have e : (k * 28 = 0) = False := eq_false (by omega)
    exact ⟨by simpa only [Addr.add, rd_T32, at32, Int.toNat_natCast, e, if_false, Nat.zero_add] using h13, by simpa only [Addr.add, rd_T32, at32, Int.toNat_natCast, e, if_false, Nat.zero_add] using h15, by simpa only [Addr.add, rd_T32, at32, Int.toNat_natCast, e, if_false, Nat.zero_add] using h26⟩

set_option maxHeartbeats 2000000 in
set_option maxRecDepth 100000 in
theorem leads_calls (A : Option Addr) (n c0 : Nat) (w : World) (cmds : List S32)
  (hcmds : Calls Try.prog 9 #[.slice A n c0] w fun e w' => ∃ v : Value, e = .returned v ∧ Kd.N k32 32 w' w.heap.size (fun _ => True) v cmds ∧ Below w.heap.size w w') (hr : cmds.length ≤ 30) (hsz : ∀ x ∈ cmds, x.f5.size ≤ maxLen) :
    Calls Try.prog 4 #[.slice A n c0] w fun e w' => e = .returned (.bool true) ∧ Below w.heap.size w w' := by
  have HR := Aside0.mk hr
  have HS := Aside0.mk hsz
  clear hr hsz
  rcases resolve_leads cmds with ⟨e0, p0, hne, hres⟩ | ⟨J, hres, hG⟩
  · have hneb : (e0 != 0) = true := bne_iff_ne.mpr hne
    have HF := Aside0.mk (f_of hres (by have := HR.out; omega) HS.out)
    go_enter Try.func4, Try.ntmps4
    go_wp2_with (first | (go_at_call 9; (refine hcmds.mono ?_); rintro e w1 ⟨v1, rfl, hN, hB⟩; obtain ⟨A1, c1, e1⟩ := Kd.N_slice hN; subst e1; have HN := Aside0.mk hN; have HB := Aside0.mk hB; clear hN hB hcmds) | (go_at_call 7; (refine (resolve_calls _ _ _ cmds [] e0 p0 _ rfl HN.out HF.out).mono ?_); rintro e w2 ⟨v2, rfl, hN, hB⟩; obtain ⟨A2, c2, e2⟩ := Kd.N_slice hN; subst e2; have HB2 := Aside0.mk (HB.out.trans (hB.mono HB.out.size)); clear hN hB HB HN HF; have HB := HB2; clear HB2) | (go_at_call 8; (refine (redactorlaw16_known.calls true _ known_true).mono ?_); rintro e w6 ⟨rfl, hB⟩; have HB6 := Aside0.mk (HB.out.trans (hB.mono HB.out.size)); clear hB HB; have HB := HB6; clear HB6))
    go_ret
    exact ⟨rfl, HB.out⟩
  · have HF := Aside0.mk (f_of hres (by have := HR.out; omega) HS.out)
    have HG := Aside0.mk hG
    obtain ⟨xs, hxs⟩ : ∃ xs, mkL cmds J = xs := ⟨_, rfl⟩
    have HX := Aside0.mk (show xs.length = cmds.length by rw [← hxs]; exact mkL_length _ _)
    rw [hxs] at HF HG
    clear hres hG hxs
    obtain ⟨n1, hn1⟩ : ∃ n1 : Nat, cmds.length = n1 := ⟨_, rfl⟩
    rw [hn1] at HX HR
    have hn30 := HR.out
    go_enter Try.func4, Try.ntmps4
    go_wp2_with (first | (go_at_call 9; (refine hcmds.mono ?_); rintro e w1 ⟨v1, rfl, hN, hB⟩; obtain ⟨A1, c1, e1⟩ := Kd.N_slice hN; rw [hn1] at e1; subst e1; have HN := Aside0.mk hN; have HB := Aside0.mk hB; clear hN hB hcmds) | (go_at_call 7; (refine (resolve_calls _ _ _ cmds xs 0 0 _ hn1.symm HN.out HF.out).mono ?_); rintro e w2 ⟨v2, rfl, hN, hB⟩; obtain ⟨A2, c2, e2⟩ := Kd.N_slice hN; rw [HX.out] at e2; subst e2; have HM := Aside0.mk hN; have HB2 := Aside0.mk (HB.out.trans (hB.mono HB.out.size)); clear hN hB HB HN HF; have HB := HB2; clear HB2))
    go_loopw [7] (fun v7 wr => ∃ k : Nat, Aside0 (k ≤ n1) ∧ v7 = .int .i64 k ∧ Aside0 (Kd.N k32 32 wr w1.heap.size (fun _ => True) (.slice A2 n1 c2) xs) ∧ Aside0 (Below w.heap.size w wr)) (fun v7 _ => n1 - (intOf v7).toNat)
    case atStart => exact ⟨0, ⟨Nat.zero_le _⟩, rfl, HM, HB⟩
    case round =>
      clear HM HB
      obtain ⟨k, hk, rfl, HM, HB⟩ := hrel
      by_cases hlt : k < n1
      · have hwk : wrap64 ((k : Int) + 1) = (k : Int) + 1 := wrap_small (by omega) (by omega)
        have b0 : (k : Int) < n1 := by omega
        have b1 : (0 : Int) ≤ k := by omega
        have HK := Aside0.mk hlt
        obtain ⟨g2, e2⟩ := N_at HM.out (by rw [HX.out]; omega)
        subst e2
        obtain ⟨q13, q15, q26⟩ := N_cmd HM.out (k := k) (by rw [HX.out]; exact hlt)
        clear hlt
        have hkx : k < xs.length := by rw [HX.out]; exact HK.out
        have HKX := Aside0.mk hkx
        clear hkx
        by_cases h3 : (at32 xs k).f3 = 123
        · obtain ⟨m, m1, m2, m3, m4, m5⟩ := HG.out.blk k HKX.out h3
          rw [HX.out] at m3
          rw [h3] at q13
          rw [m1] at q26
          obtain ⟨r13, r15, r26⟩ := N_cmd HM.out (k := m) (by rw [HX.out]; exact m3)
          rw [m4] at r13
          have b2 : ¬ ((m : Int) ≤ k) := by omega
          have b3 : ¬ ((n1 : Int) ≤ m) := by omega
          have b4 : (0 : Int) ≤ m := by omega
          have b5 : (m : Int) < n1 := by omega
          have M2 := Aside0.mk m2
          have M3 := Aside0.mk m3
          have M5 := Aside0.mk m5
          clear h3 m1 m2 m3 m4 m5
          go_wp2
          go_loop [9] (fun v9 => ∃ j : Nat, Aside0 (k < j ∧ j ≤ m) ∧ v9 = .int .i64 j) (fun v9 => m - (intOf v9).toNat)
          case atStart => exact ⟨k + 1, ⟨Nat.lt_succ_self _, M2.out⟩, by rw [Int.natCast_succ]⟩
          case round =>
            obtain ⟨j, hj, rfl⟩ := hrel
            by_cases hjm : j < m
            · have hwj : wrap64 ((j : Int) + 1) = (j : Int) + 1 := wrap_small (by omega) (by omega)
              have d0 : (j : Int) < m := by omega
              have d1 : (0 : Int) ≤ j := by omega
              have d2 : (j : Int) < n1 := by omega
              have HJM := Aside0.mk hjm
              obtain ⟨t13, t15, t26⟩ := N_cmd HM.out (k := j) (by rw [HX.out]; exact Nat.lt_trans hjm M3.out)
              clear hjm
              by_cases h5 : (at32 xs j).f3 = 123
              · have d3 := M5.out j hj.out.1 HJM.out h5
                rw [h5] at t13
                have d4 : ¬ ((m : Int) ≤ (at32 xs j).f15) := by omega
                clear h5
                go_wp2
                go_roundw
                case rel => exact ⟨j + 1, ⟨Nat.lt_succ_of_lt hj.out.1, HJM.out⟩, by rw [Int.natCast_succ]⟩
                case measure => exact meas_of HJM.out
              · have h5b : ((at32 xs j).f3 == 123) = false := beq_eq_false_iff_ne.mpr h5
                clear h5
                go_wp2
                go_roundw
                case rel => exact ⟨j + 1, ⟨Nat.lt_succ_of_lt hj.out.1, HJM.out⟩, by rw [Int.natCast_succ]⟩
                case measure => exact meas_of HJM.out
            · have d0 : ¬ ((j : Int) < m) := by omega
              clear hjm
              go_wp2
              go_roundw
              case rel => exact ⟨k + 1, ⟨HK.out⟩, by rw [Int.natCast_succ], HM, HB⟩
              case measure => exact meas_of HK.out
        · by_cases hbt : (at32 xs k).f3 = 98 ∨ (at32 xs k).f3 = 116
          · cases hem : (at32 xs k).f5.toList.isEmpty with
            | true =>
              rw [HG.out.stop k HKX.out hbt hem, HX.out] at q26
              have hs2 : (at32 xs k).f5.toList = [] := List.isEmpty_iff.mp hem
              generalize (at32 xs k).f5 = s at q15 hem hs2
              rcases hbt with h98 | h98
              · rw [h98] at q13
                clear h98 h3
                go_wp2
                go_quiet (fail)
                go_wp2
                go_roundw
                case rel => exact ⟨k + 1, ⟨HK.out⟩, by rw [Int.natCast_succ], ⟨Kd.N_drewN HM.out _⟩, ⟨pw_below_drewN HB.out _⟩⟩
                case measure => exact meas_of HK.out
              · rw [h98] at q13
                clear h98 h3
                go_wp2
                go_quiet (fail)
                go_wp2
                go_roundw
                case rel => exact ⟨k + 1, ⟨HK.out⟩, by rw [Int.natCast_succ], ⟨Kd.N_drewN HM.out _⟩, ⟨pw_below_drewN HB.out _⟩⟩
                case measure => exact meas_of HK.out
            | false =>
              obtain ⟨m, m1, m2, m3, m4⟩ := HG.out.jump k HKX.out hbt hem
              rw [HX.out] at m2
              rw [m1] at q26
              obtain ⟨r13, r15, r26⟩ := N_cmd HM.out (k := m) (by rw [HX.out]; exact m2)
              rw [m3] at r13
              rw [m4] at r15
              have b3 : ¬ ((n1 : Int) ≤ m) := by omega
              have b4 : (0 : Int) ≤ m := by omega
              have b5 : (m : Int) < n1 := by omega
              have b6 : ¬ ((m : Int) < 0) := by omega
              have b7 : decide ((n1 : Int) ≤ (m : Int)) = false := decide_eq_false b3
              have b8 : decide ((m : Int) < 0) = false := decide_eq_false b6
              have b9 : ¬ (n1 ≤ m) := by omega
              have b10 : decide (n1 ≤ m) = false := decide_eq_false b9
              have hs2 : ¬ ((at32 xs k).f5.toList = []) := fun h => by rw [h] at hem; cases hem
              generalize (at32 xs k).f5 = s at q15 r15 hem hs2
              clear m1 m2 m3 m4
              rcases hbt with h98 | h98
              · rw [h98] at q13
                clear h98 h3
                go_wp2
                go_quiet (fail)
                go_wp2
                go_roundw
                case rel => exact ⟨k + 1, ⟨HK.out⟩, by rw [Int.natCast_succ], ⟨Kd.N_drewN HM.out _⟩, ⟨pw_below_drewN HB.out _⟩⟩
                case measure => exact meas_of HK.out
              · rw [h98] at q13
                clear h98 h3
                go_wp2
                go_quiet (fail)
                go_wp2
                go_roundw
                case rel => exact ⟨k + 1, ⟨HK.out⟩, by rw [Int.natCast_succ], ⟨Kd.N_drewN HM.out _⟩, ⟨pw_below_drewN HB.out _⟩⟩
                case measure => exact meas_of HK.out
          · have h98 : (at32 xs k).f3 ≠ 98 := fun h => hbt (.inl h)
            have h116 : (at32 xs k).f3 ≠ 116 := fun h => hbt (.inr h)
            rw [HG.out.none k HKX.out h3 h98 h116] at q26
            have e1 : ((at32 xs k).f3 == 123) = false := beq_eq_false_iff_ne.mpr h3
            have e2 : ((at32 xs k).f3 == 98) = false := beq_eq_false_iff_ne.mpr h98
            have e3 : ((at32 xs k).f3 == 116) = false := beq_eq_false_iff_ne.mpr h116
            clear hbt
            go_wp2
            go_roundw
            case rel => exact ⟨k + 1, ⟨HK.out⟩, by rw [Int.natCast_succ], HM, HB⟩
            case measure => exact meas_of HK.out
      · have b0 : ¬ ((k : Int) < n1) := by omega
        clear hlt
        go_wp2_with (first | (go_at_call 8; (refine (redactorlaw16_known.calls true _ known_true).mono ?_); rintro e w6 ⟨rfl, hB⟩; have HB6 := Aside0.mk (HB.out.trans (hB.mono HB.out.size)); clear hB HB; have HB := HB6; clear HB6))
        go_ret
        exact ⟨rfl, HB.out⟩
end Go.Proofs.Ytgennlcbmepchaa.PAll
