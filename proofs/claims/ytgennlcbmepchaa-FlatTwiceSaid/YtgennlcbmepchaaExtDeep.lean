/- FlatDeep's walk. (Written by wip/flat/gen_deep.py.) -/
import Derived.Test.YtgennlcbmepchaaPAllx3
import Derived.Test.YtgennlcbmepchaaExtCmd
namespace Go.Proofs.Ytgennlcbmepchaa.PAll
open Go.RowKit Go.Maps Go.WideMaps Go.Proofs.YtgennlcbmepchaaW.PrintWords Go.Proofs.YtgennlcbmepchaaW.PrintLast Go.Proofs.YtgennlcbmepchaaW.PrintMore
set_option linter.unusedVariables false

/-- The first k of the blocks' heads; .. their ends. -/
def openL (k : Nat) : List S32 := (List.range k).map (fun (i : Nat) => cmdL 123 ByteArray.empty i)
def closeL (m k : Nat) : List S32 := openL m ++ (List.range k).map (fun (j : Nat) => cmdL 125 ByteArray.empty (m + j))
theorem openL_succ (k : Nat) : openL k ++ [cmdL 123 ByteArray.empty k] = openL (k + 1) := by simp [openL, List.range_succ]
theorem closeL_zero (m : Nat) : closeL m 0 = openL m := by simp [closeL]
theorem closeL_succ (m k : Nat) : closeL m k ++ [cmdL 125 ByteArray.empty (m + k)] = closeL m (k + 1) := by simp [closeL, List.range_succ]
theorem openL_length (k : Nat) : (openL k).length = k := by simp [openL]
theorem closeL_length (m k : Nat) : (closeL m k).length = m + k := by simp [closeL, openL]
theorem deepL_eq (m : Nat) : closeL m m = deepL m := rfl
theorem openL_room {m k : Nat} (h : m ≤ 60) (hk : k < m) : (openL k).length < 475464487686 := by rw [openL_length]; omega
theorem closeL_room {m k : Nat} (h : m ≤ 60) (hk : k < m) : (closeL m k).length < 475464487686 := by rw [closeL_length]; omega
theorem deepL_room {m : Nat} (h : m ≤ 60) : (deepL m).length < 475464487686 := by rw [deepL_length]; omega
theorem wrap_small {z : Int} (h0 : 0 ≤ z) (h1 : z < 10000) : wrap64 z = z := by unfold wrap64; omega
theorem meas_of {n : Nat} {k : Nat} (h : k < n) : n - (intOf (.int .i64 ((k : Int) + 1))).toNat < n - (intOf (.int .i64 (k : Int))).toNat := by
  show n - ((k : Int) + 1).toNat < n - (k : Int).toNat
  omega
theorem N_jump {w : World} {base n c k g : Nat} {ok : Nat → Prop} {xs : List S32} (h : Kd.N k32 32 w base ok (.slice (some ⟨g, 0, none⟩) n c) xs) (hk : k < xs.length) : w.cell? ⟨g, k * 28 + 26, none⟩ = some (.int .i64 (at32 xs k).f15) := by
  obtain ⟨_, _, hC⟩ := Kd.N_reads' h
  obtain ⟨ad, A2, c2, A8, c8, A14, c14, A17, c17, A21, c21, A25, c25, e, _, _, _, _, _, _, _, _, _, _, _, _, _, _, _, _, _, _, _, _, _, _, _, _, _, _, h26, _⟩ := at_T32 hC (k : Int) (by omega) (by omega)
  cases e
  by_cases hk0 : k = 0
  · subst hk0; simpa [Addr.add, rd_T32, at32] using h26
  · have e : (k * 28 = 0) = False := eq_false (by omega)
    simpa only [Addr.add, rd_T32, at32, Int.toNat_natCast, e, if_false, Nat.zero_add] using h26
theorem N_at {w : World} {base n c : Nat} {ok : Nat → Prop} {A : Option Addr} {xs : List S32} (h : Kd.N k32 32 w base ok (.slice A n c) xs) (hk : 0 < xs.length) : ∃ g, A = some ⟨g, 0, none⟩ := by
  obtain ⟨g, cap, e, _⟩ := Kd.N_form h hk
  injection e with e1
  exact ⟨g, e1⟩
theorem call_of {v v' : Value} {n : Nat} {w : World} {Q : Ending → World → Prop} (h : v = v') (hc : Calls Try.prog n #[v'] w Q) : Calls Try.prog n #[v] w Q := h ▸ hc
theorem deepL_room1 {m : Nat} (h : m ≤ 60) (x : S32) : (deepL m ++ [x]).length < 475464487686 := by rw [List.length_append, deepL_length]; simp; omega
theorem many_sizes (m : Nat) (p : Int) : ∀ x ∈ deepL m ++ [cmdL 125 ByteArray.empty p], x.f5.size ≤ maxLen := deep_sizes (fun x hx => by
  rcases List.mem_append.mp hx with h | h
  · exact deepL_labs m x h
  · rw [List.mem_singleton.mp h]; rfl)
theorem known_true : redactorlaw16_known.f = some true := by decide +kernel
theorem resolve_calls (A0 : Option Addr) (n c0 : Nat) (l0 : List S32) (r1 : List S32) (r2 r3 : Int) (w : World) {ok : Nat → Prop} {base : Nat} (hn : n = l0.length) (hs0 : Kd.N k32 32 w base ok (.slice A0 n c0) l0) (h : flat_Resolve.f l0 = some (r1, r2, r3)) :
    Calls Try.prog 7 #[.slice A0 n c0] w fun e w' => ∃ v0_ : Value, e = .returned (.tuple #[v0_, .int .u16 r2, .int .i64 r3]) ∧ Kd.N k32 32 w' w.heap.size (fun _ => True) v0_ r1 ∧ Below w.heap.size w w' := by
  subst hn
  refine (flat_Resolve.calls ok A0 c0 l0 r1 r2 r3 w (Kd.N_V hs0) h).mono ?_
  rintro e w' ⟨v, he, hN, hb⟩
  exact ⟨v, he, Kd.N_mono hN (fun _ _ => trivial), hb⟩
set_option maxHeartbeats 1000000 in
set_option maxRecDepth 100000 in
theorem deep_calls (a0 a1 : Int) (m : Nat) (h0 : 0 ≤ a0) (h1 : 0 ≤ a1) (h2 : a1 < 256) (hm : 1 + a0 % 60 = (m : Int)) (hm60 : m ≤ 60) (hw : wrap64 (1 + a0 % 60) = (m : Int)) (w : World) :
    Calls Try.prog 3 #[.int .u8 a0, .int .u8 a1] w fun e w' => e = .returned (.bool true) ∧ Below w.heap.size w w' := by
  have HM := Aside0.mk hm60
  go_enter Try.func3, Try.ntmps3
  go_wp2
  go_loopw [6, 7] (fun v6 v7 wr => ∃ k : Nat, Aside0 (k ≤ m) ∧ v7 = .int .i64 k ∧ Aside0 (Kd.N k32 32 wr w.heap.size (fun _ => True) v6 (openL k)) ∧ Aside0 (Below w.heap.size w wr)) (fun _ v7 _ => m - (intOf v7).toNat)
  case atStart => exact ⟨0, ⟨Nat.zero_le _⟩, rfl, ⟨Kd.N_nil _ _ _ _ _⟩, ⟨Below.refl _ _⟩⟩
  case round =>
    obtain ⟨k, hk, rfl, HO, HB⟩ := hrel
    by_cases hlt : k < m
    · have hwk : wrap64 ((k : Int) + 1) = (k : Int) + 1 := wrap_small (by omega) (by omega)
      have HK := Aside0.mk hlt
      have b0 : (k : Int) < m := by omega
      clear hlt
      go_wp2_with (first | ((with_reducible refine gate_builtin (b := .append) (xs := #[.tmp 28, .tmp 31]) rfl ?_); at_builtin; refine append_cmd (w0 := w) w.heap.size rfl (.tmp 28) (.tmp 31) rfl _ (openL k) 123 ByteArray.empty (k) ?aS ?aX HO.out HB.out HB.out.size (openL_room HM.out HK.out) ?_; (case aS => first | rfl | (go_simp; done)); (case aX => first | rfl | (go_simp; done)); intro v1 w1 hN hb; have HO1 := Aside0.mk (openL_succ k ▸ hN); have HB1 := Aside0.mk hb; clear hN hb))
      go_roundw
      case rel => exact ⟨k + 1, ⟨HK.out⟩, by rw [Int.natCast_succ], HO1, HB1⟩
      case measure => exact meas_of HK.out
    · have hkn : m = k := by have := hk.out; omega
      have HO0 := Aside0.mk (show Kd.N k32 32 wr w.heap.size (fun _ => True) _ (closeL m 0) by rw [closeL_zero, hkn]; exact HO.out)
      have b1 : ¬ (k : Int) < m := by omega
      clear HO hlt hkn hk
      obtain ⟨wa, rfl⟩ : ∃ wa : World, wa = wr := ⟨_, rfl⟩
      have HBa := HB
      clear HB
      go_wp2
      clear b1
      go_loopw [6, 8] (fun v6 v8 wr => ∃ k : Nat, Aside0 (k ≤ m) ∧ v8 = .int .i64 k ∧ Aside0 (Kd.N k32 32 wr w.heap.size (fun _ => True) v6 (closeL m k)) ∧ Aside0 (Below w.heap.size w wr)) (fun _ v8 _ => m - (intOf v8).toNat)
      case atStart => exact ⟨0, ⟨Nat.zero_le _⟩, rfl, HO0, HBa⟩
      case round =>
        clear HO0 HBa
        obtain ⟨k, hk, rfl, HO, HB⟩ := hrel
        by_cases hlt : k < m
        · have hwk : wrap64 ((k : Int) + 1) = (k : Int) + 1 := wrap_small (by omega) (by omega)
          have hwm : wrap64 ((m : Int) + k) = (m : Int) + k := wrap_small (by omega) (by omega)
          have HK := Aside0.mk hlt
          have b0 : (k : Int) < m := by omega
          clear hlt
          go_wp2_with (first | ((with_reducible refine gate_builtin (b := .append) (xs := #[.tmp 38, .tmp 43]) rfl ?_); at_builtin; refine append_cmd (w0 := w) w.heap.size rfl (.tmp 38) (.tmp 43) rfl _ (closeL m k) 125 ByteArray.empty ((m : Int) + k) ?aS ?aX HO.out HB.out HB.out.size (closeL_room HM.out HK.out) ?_; (case aS => first | rfl | (go_simp; done)); (case aX => first | rfl | (go_simp; done)); intro v1 w1 hN hb; have HO1 := Aside0.mk (closeL_succ m k ▸ hN); have HB1 := Aside0.mk hb; clear hN hb))
          go_roundw
          case rel => exact ⟨k + 1, ⟨HK.out⟩, by rw [Int.natCast_succ], HO1, HB1⟩
          case measure => exact meas_of HK.out
        · have hkn : m = k := by have := hk.out; omega
          have HO0 := Aside0.mk (show Kd.N k32 32 wr w.heap.size (fun _ => True) _ (deepL m) by have h := HO.out; rw [← hkn] at h; exact h)
          have b1 : ¬ (k : Int) < m := by omega
          clear HO hlt hkn hk
          obtain ⟨xs, hr, hxl, hJ⟩ := deep_good m
          have hf := f_of hr (deepL_room HM.out) (deep_sizes (deepL_labs m))
          obtain ⟨A1, c1, e1⟩ := Kd.N_slice HO0.out
          rw [deepL_length] at e1
          obtain ⟨n1, hn1⟩ : ∃ n1 : Nat, n1 = 2 * m := ⟨_, rfl⟩
          rw [← hn1] at e1
          subst e1
          have hn1i : (n1 : Int) = 2 * m := by omega
          have HN1 := Aside0.mk (hn1.trans (deepL_length m).symm)
          clear hn1
          have HF := Aside0.mk hf
          have HX := Aside0.mk hxl
          have HJ := Aside0.mk hJ
          obtain ⟨n2, hn2⟩ : ∃ n2 : Nat, n2 = 2 * m := ⟨_, rfl⟩
          have hn2i : (n2 : Int) = 2 * m := by omega
          have hne : ((n2 : Int) != 2 * (m : Int)) = false := by simp [hn2i]
          have HN2 := Aside0.mk hn2
          clear hr hf hxl hJ hn2 hn2i
          go_wp2_with (first | (go_at_call 7; (refine (resolve_calls _ _ _ (deepL m) xs 0 0 _ HN1.out HO0.out HF.out).mono ?_); rintro e w2 ⟨v2, rfl, hN, hB⟩; obtain ⟨A2, c2, e2⟩ := Kd.N_slice hN; rw [HX.out.trans HN2.out.symm] at e2; subst e2; have HM2 := Aside0.mk hN; have HO2 := Aside0.mk (Kd.N_below HO0.out hB); have HB2 := Aside0.mk (HB.out.trans (hB.mono HB.out.size)); clear hN hB HB HO0))
          clear hne
          obtain ⟨g2, e2⟩ := N_at HM2.out (by rw [HX.out]; omega)
          subst e2
          go_loop [12] (fun v12 => ∃ k : Nat, Aside0 (k ≤ m) ∧ v12 = .int .i64 k) (fun v12 => m - (intOf v12).toNat)
          case atStart => exact ⟨0, ⟨Nat.zero_le _⟩, rfl⟩
          case round =>

            obtain ⟨k, hk, rfl⟩ := hrel
            by_cases hlt : k < m
            · have hwk : wrap64 ((k : Int) + 1) = (k : Int) + 1 := wrap_small (by omega) (by omega)
              have b0 : (k : Int) < m := by omega
              have b1 : (k : Int) < n2 := by have := HN2.out; omega
              have HK := Aside0.mk hlt
              have hj := N_jump HM2.out (k := k) (by rw [HX.out]; omega)
              rw [HJ.out k hlt] at hj
              clear hlt
              go_wp2
              go_roundw
              case rel => exact ⟨k + 1, ⟨HK.out⟩, by rw [Int.natCast_succ]⟩
              case measure => exact meas_of HK.out
            · have b1 : ¬ (k : Int) < m := by omega
              clear hlt hk
              obtain ⟨_, hcap, _⟩ := Kd.N_reads' HO2.out
              have b2 : 2 * (m : Int) - 1 ≤ c1 := by omega
              have hf1 := Aside0.mk (f_of (deep_few (m := m) (by omega)) (by have := deepL_room HM.out; simp; omega) (deep_sizes (fun x hx => deepL_labs m x (List.mem_of_mem_take hx))))
              have hf2 := Aside0.mk (f_of (deep_many m (999 + a1)) (deepL_room1 HM.out _) (many_sizes m _))
              have HT := Aside0.mk (Kd.N_take HO2.out (m := 2 * m - 1) (by rw [deepL_length]; omega))
              have HTL := Aside0.mk (show 2 * m - 1 = ((deepL m).take (2 * m - 1)).length by rw [List.length_take, deepL_length]; omega)
              go_wp2_with (first | (go_at_call 7; (refine (resolve_calls _ _ _ _ [] 51 0 _ HTL.out HT.out hf1.out).mono ?_); rintro e w3 ⟨v3, rfl, hN, hB⟩; have HO3 := Aside0.mk (Kd.N_below HO2.out hB); have HB3 := Aside0.mk (HB2.out.trans (hB.mono HB2.out.size)); clear hN hB HB2 HO2 HT HTL hf1) | ((with_reducible refine gate_builtin (b := .append) (xs := #[.tmp 82, .tmp 87]) rfl ?_); at_builtin; refine append_cmd (w0 := w) w.heap.size rfl (.tmp 82) (.tmp 87) rfl _ (deepL m) 125 ByteArray.empty (999 + a1) ?aS ?aX HO3.out HB3.out HB3.out.size (deepL_room HM.out) ?_; (case aS => first | rfl | (go_simp; done)); (case aX => first | rfl | (go_simp; done)); intro v1 w1 hN hb; have HO1 := Aside0.mk (id hN); have HB1 := Aside0.mk hb; clear hN hb HO3 HB3) | (go_at_call 7; obtain ⟨A4, c4, e4⟩ := Kd.N_slice HO1.out; (refine (call_of e4 (resolve_calls A4 _ c4 _ [] 51 (999 + a1) _ rfl (e4 ▸ HO1.out) hf2.out)).mono ?_); rintro e w5 ⟨v5, rfl, hN, hB⟩; have HB5 := Aside0.mk (HB1.out.trans (hB.mono HB1.out.size)); clear hN hB HB1 HO1) | (go_at_call 8; (refine (redactorlaw16_known.calls true _ known_true).mono ?_); rintro e w6 ⟨rfl, hB⟩; have HB6 := Aside0.mk (HB5.out.trans (hB.mono HB5.out.size)); clear hB HB5))
              go_ret
              exact ⟨rfl, HB6.out⟩
end Go.Proofs.Ytgennlcbmepchaa.PAll
