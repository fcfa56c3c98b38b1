/- FlatLabels' walk. (Written by wip/flat/gen_lab.py.) -/
import Derived.Test.YtgennlcbmepchaaExtDeep
import Derived.Test.YtgennlcbmepchaaExtLab
namespace Go.Proofs.Ytgennlcbmepchaa.PAll
open Go.RowKit Go.Maps Go.WideMaps Go.Proofs.YtgennlcbmepchaaW.PrintWords Go.Proofs.YtgennlcbmepchaaW.PrintLast Go.Proofs.YtgennlcbmepchaaW.PrintMore
set_option linter.unusedVariables false

theorem labL_room {s : ByteArray} {p n k : Nat} (h : n ≤ 60) (hk : k < n) : (labL s p k).length < 475464487686 := by rw [labL_length]; omega
theorem labL_room1 {s : ByteArray} {p n : Nat} (h : n ≤ 60) : (labL s p n).length < 475464487686 := by rw [labL_length]; omega
theorem at_p {s : ByteArray} {p k : Nat} (h : (k : Int) = p) : labAt s p k = cmdL 58 s 0 := by
  unfold labAt; rw [if_pos (by omega)]
theorem at_t {s : ByteArray} {p k : Nat} (h : ¬ (k : Int) = p) (h2 : (k : Int) % 3 = 1) : labAt s p k = cmdL 116 ByteArray.empty 0 := by
  unfold labAt; rw [if_neg (by omega), if_pos (by omega)]
theorem at_b {s : ByteArray} {p k : Nat} (h : ¬ (k : Int) = p) (h2 : ¬ (k : Int) % 3 = 1) : labAt s p k = cmdL 98 s 0 := by
  unfold labAt; rw [if_neg (by omega), if_neg (by omega)]
theorem want_p {p n k : Nat} (h : (k : Int) = p) : wantAt p n k = 0 := by
  unfold wantAt; rw [if_pos (by omega)]
theorem want_t {p n k : Nat} (h : ¬ (k : Int) = p) (h2 : (k : Int) % 3 = 1) : wantAt p n k = n := by
  unfold wantAt; rw [if_neg (by omega), if_pos (by omega)]
theorem want_b {p n k : Nat} (h : ¬ (k : Int) = p) (h2 : ¬ (k : Int) % 3 = 1) : wantAt p n k = p := by
  unfold wantAt; rw [if_neg (by omega), if_neg (by omega)]
theorem cmdC_one {op : Int} {lab : ByteArray} {p : Int} : ∀ v ∈ cmdC op lab p, v.oneCell' = true := by
  intro v hv
  simp only [cmdC, List.mem_cons, List.not_mem_nil, or_false] at hv
  rcases hv with rfl | rfl | rfl | rfl | rfl | rfl | rfl | rfl | rfl | rfl | rfl | rfl | rfl | rfl | rfl | rfl | rfl | rfl | rfl | rfl | rfl | rfl | rfl | rfl | rfl | rfl | rfl | rfl <;> rfl
theorem box_cells {W : World} {g : Nat} {cs : List Value} {t : TypeId} (h : W.heap[g]? = some (.cells cs.toArray t (0, 0))) : ∀ j v, cs[j]? = some v → W.cell? (Addr.add ⟨g, 0, none⟩ j) = some v := by
  intro j v hv
  have e : Addr.add ⟨g, 0, none⟩ j = ⟨g, j, none⟩ := by
    unfold Addr.add
    by_cases hj : j = 0
    · subst hj; rfl
    · simp [hj]
  rw [e]
  simp [World.cell?, h, hv]
/-- What is made up so far, and what the box that it comes out of may not touch. -/
structure Made (w : World) (g : Nat) (v : Value) (xs : List S32) (x : S32) (c : List Value) (W : World) : Prop where
  n : Kd.N k32 32 W w.heap.size (fun k => True ∧ k < g) v xs
  b : Below w.heap.size w W
  box : W.heap[g]? = some (.cells c.toArray 32 (0, 0))
theorem Made.put {w W W' : World} {g : Nat} {v : Value} {xs : List S32} {x x' : S32} {c c' : List Value} (h : Made w g v xs x c W) (hw : w.heap.size ≤ g) (hb : W'.heap[g]? = some (.cells c'.toArray 32 (0, 0))) (hg : W.grownBy W' (some g)) : Made w g v xs x' c' W' :=
  ⟨Kd.N_grown h.n hg (fun k hk => by intro e; injection e with e; have := hk.2; omega), h.b.grown hg h.b.size (fun k hk => by cases hk; exact hw), hb⟩
set_option maxHeartbeats 1000000 in
set_option maxRecDepth 100000 in
theorem lab_calls (a0 a1 : Int) (s : ByteArray) (n p : Nat) (h0 : 0 ≤ a0) (h1 : 0 ≤ a1) (h2 : a1 < 256) (hs : s.size ≠ 0) (hs40 : s.size ≤ 40) (hm : 3 + a0 % 30 = (n : Int)) (hm60 : n ≤ 60) (hp : a1 % (n : Int) = p) (hpn : p < n) (w : World) :
    Calls Try.prog 6 #[.int .u8 a0, .int .u8 a1, .string s] w fun e w' => e = .returned (.bool true) ∧ Below w.heap.size w w' := by
  have HM := Aside0.mk hm60
  have HPN := Aside0.mk hpn
  have HS := Aside0.mk hs
  have HS40 := Aside0.mk hs40
  have hs1 : s.toList.isEmpty = false := toList_ne hs
  have hs2 : ¬ (s.toList = []) := fun h => by rw [h] at hs1; cases hs1
  have hs3 : ¬ (40 < (s.size : Int)) := by omega
  have hs4 : ¬ (s.toList.isEmpty = true ∨ 40 < (s.size : Int)) := fun h => h.elim (fun h => by rw [hs1] at h; cases h) hs3
  have hn0 : (n : Int) ≠ 0 := by omega
  clear hs hs40
  go_enter Try.func6, Try.ntmps6
  go_wp2
  go_loopw [9, 10] (fun v9 v10 wr => ∃ k : Nat, Aside0 (k ≤ n) ∧ v10 = .int .i64 k ∧ Aside0 (Kd.N k32 32 wr w.heap.size (fun _ => True) v9 (labL s p k)) ∧ Aside0 (Below w.heap.size w wr)) (fun _ v10 _ => n - (intOf v10).toNat)
  case atStart => exact ⟨0, ⟨Nat.zero_le _⟩, rfl, ⟨Kd.N_nil _ _ _ _ _⟩, ⟨Below.refl _ _⟩⟩
  case round =>
    obtain ⟨k, hk, rfl, HO, HB⟩ := hrel
    by_cases hlt : k < n
    · have hwk : wrap64 ((k : Int) + 1) = (k : Int) + 1 := wrap_small (by omega) (by omega)
      have HK := Aside0.mk hlt
      have b0 : (k : Int) < n := by omega
      have b1 : (0 : Int) ≤ k := by omega
      clear hlt
      by_cases hkp : (k : Int) = p
      · have HE := Aside0.mk (at_p (s := s) hkp)
        by_cases hk3 : (k : Int) % 3 = 1
        · go_wp2_with (first | ((with_reducible refine gate_dst (N := 11) rfl ?_); (refine box_event ?hg (N := 11) ?hd (cs := zero32) (t := 32) ?hr ?_); (case hd => rfl); (case hg => rfl); (case hr => first | (go_simp; done) | (go_simp; rfl)); intro gc hgc w2 hbox hb2; have GC := Aside0.mk (hgc ▸ HB.out.size : w.heap.size ≤ gc); have MB := Aside0.mk (show Made w gc _ _ z32 zero32.toList w2 from ⟨by rw [hgc]; exact Kd.N_below (Kd.N_bound HO.out) hb2, HB.out.trans (hb2.mono HB.out.size), by simpa using hbox⟩); clear hbox hb2 hgc HO HB) | ((with_reducible refine gate_store (t := 32) (p := 11) (v := .tmp 39) rfl ?_); (refine store_whole rfl rfl 32 (.tmp 11) (.tmp 39) rfl gc (cmdC 98 s 0) ?hx ?hy _ MB.out.box (size32 rfl) ?ho cmdC_one ?_); (case hx => rfl); (case hy => first | rfl | (go_simp; done) | (go_simp; rfl)); (case ho => rfl); intro w3 hb3 hg3; have M1 := Aside0.mk (MB.out.put (x' := cmdL 98 s 0) GC.out hb3 hg3); clear MB hb3 hg3; have MB := M1; clear M1) | ((with_reducible refine gate_store (t := 32) (p := 11) (v := .tmp 43) rfl ?_); (refine store_whole rfl rfl 32 (.tmp 11) (.tmp 43) rfl gc (cmdC 116 ByteArray.empty 0) ?hx ?hy _ MB.out.box (size32 rfl) ?ho cmdC_one ?_); (case hx => rfl); (case hy => first | rfl | (go_simp; done) | (go_simp; rfl)); (case ho => rfl); intro w3 hb3 hg3; have M1 := Aside0.mk (MB.out.put (x' := cmdL 116 ByteArray.empty 0) GC.out hb3 hg3); clear MB hb3 hg3; have MB := M1; clear M1) | ((with_reducible refine gate_store (t := 32) (p := 11) (v := .tmp 48) rfl ?_); (refine store_whole rfl rfl 32 (.tmp 11) (.tmp 48) rfl gc (cmdC 58 s 0) ?hx ?hy _ MB.out.box (size32 rfl) ?ho cmdC_one ?_); (case hx => rfl); (case hy => first | rfl | (go_simp; done) | (go_simp; rfl)); (case ho => rfl); intro w3 hb3 hg3; have M1 := Aside0.mk (MB.out.put (x' := cmdL 58 s 0) GC.out hb3 hg3); clear MB hb3 hg3; have MB := M1; clear M1) | ((with_reducible refine gate_dst (N := 50) rfl ?_); (refine load_whole rfl 32 _ rfl ⟨gc, 0, none⟩ ?hx Try.underlying32 (cmdC 58 s 0) (size32 rfl) (box_cells MB.out.box) ?_); (case hx => first | rfl | (simp [Act.eval]; done)); have HO := Aside0.mk (Kd.N_mono MB.out.n (fun _ _ => trivial)); have HB := Aside0.mk MB.out.b; clear MB) | ((with_reducible refine gate_builtin (b := .append) (xs := #[.tmp 49, .tmp 51]) rfl ?_); at_builtin; refine append_cmd (w0 := w) w.heap.size rfl (.tmp 49) (.tmp 51) rfl _ (labL s p k) 58 s 0 ?aS ?aX HO.out HB.out HB.out.size (labL_room HM.out HK.out) ?_; (case aS => first | rfl | (go_simp; done)); (case aX => first | rfl | (go_simp; done)); intro v1 w1 hN hb; have HO1 := Aside0.mk (labL_succ s p k ▸ HE.out.symm ▸ hN); have HB1 := Aside0.mk hb; clear hN hb))
          go_roundw
          case rel => exact ⟨k + 1, ⟨HK.out⟩, by rw [Int.natCast_succ, hkp], HO1, HB1⟩
          case measure => rw [← hkp]; exact meas_of HK.out
        · go_wp2_with (first | ((with_reducible refine gate_dst (N := 11) rfl ?_); (refine box_event ?hg (N := 11) ?hd (cs := zero32) (t := 32) ?hr ?_); (case hd => rfl); (case hg => rfl); (case hr => first | (go_simp; done) | (go_simp; rfl)); intro gc hgc w2 hbox hb2; have GC := Aside0.mk (hgc ▸ HB.out.size : w.heap.size ≤ gc); have MB := Aside0.mk (show Made w gc _ _ z32 zero32.toList w2 from ⟨by rw [hgc]; exact Kd.N_below (Kd.N_bound HO.out) hb2, HB.out.trans (hb2.mono HB.out.size), by simpa using hbox⟩); clear hbox hb2 hgc HO HB) | ((with_reducible refine gate_store (t := 32) (p := 11) (v := .tmp 39) rfl ?_); (refine store_whole rfl rfl 32 (.tmp 11) (.tmp 39) rfl gc (cmdC 98 s 0) ?hx ?hy _ MB.out.box (size32 rfl) ?ho cmdC_one ?_); (case hx => rfl); (case hy => first | rfl | (go_simp; done) | (go_simp; rfl)); (case ho => rfl); intro w3 hb3 hg3; have M1 := Aside0.mk (MB.out.put (x' := cmdL 98 s 0) GC.out hb3 hg3); clear MB hb3 hg3; have MB := M1; clear M1) | ((with_reducible refine gate_store (t := 32) (p := 11) (v := .tmp 48) rfl ?_); (refine store_whole rfl rfl 32 (.tmp 11) (.tmp 48) rfl gc (cmdC 58 s 0) ?hx ?hy _ MB.out.box (size32 rfl) ?ho cmdC_one ?_); (case hx => rfl); (case hy => first | rfl | (go_simp; done) | (go_simp; rfl)); (case ho => rfl); intro w3 hb3 hg3; have M1 := Aside0.mk (MB.out.put (x' := cmdL 58 s 0) GC.out hb3 hg3); clear MB hb3 hg3; have MB := M1; clear M1) | ((with_reducible refine gate_dst (N := 50) rfl ?_); (refine load_whole rfl 32 _ rfl ⟨gc, 0, none⟩ ?hx Try.underlying32 (cmdC 58 s 0) (size32 rfl) (box_cells MB.out.box) ?_); (case hx => first | rfl | (simp [Act.eval]; done)); have HO := Aside0.mk (Kd.N_mono MB.out.n (fun _ _ => trivial)); have HB := Aside0.mk MB.out.b; clear MB) | ((with_reducible refine gate_builtin (b := .append) (xs := #[.tmp 49, .tmp 51]) rfl ?_); at_builtin; refine append_cmd (w0 := w) w.heap.size rfl (.tmp 49) (.tmp 51) rfl _ (labL s p k) 58 s 0 ?aS ?aX HO.out HB.out HB.out.size (labL_room HM.out HK.out) ?_; (case aS => first | rfl | (go_simp; done)); (case aX => first | rfl | (go_simp; done)); intro v1 w1 hN hb; have HO1 := Aside0.mk (labL_succ s p k ▸ HE.out.symm ▸ hN); have HB1 := Aside0.mk hb; clear hN hb))
          go_roundw
          case rel => exact ⟨k + 1, ⟨HK.out⟩, by rw [Int.natCast_succ, hkp], HO1, HB1⟩
          case measure => rw [← hkp]; exact meas_of HK.out
      · by_cases hk3 : (k : Int) % 3 = 1
        · have HE := Aside0.mk (at_t (s := s) hkp hk3)
          go_wp2_with (first | ((with_reducible refine gate_dst (N := 11) rfl ?_); (refine box_event ?hg (N := 11) ?hd (cs := zero32) (t := 32) ?hr ?_); (case hd => rfl); (case hg => rfl); (case hr => first | (go_simp; done) | (go_simp; rfl)); intro gc hgc w2 hbox hb2; have GC := Aside0.mk (hgc ▸ HB.out.size : w.heap.size ≤ gc); have MB := Aside0.mk (show Made w gc _ _ z32 zero32.toList w2 from ⟨by rw [hgc]; exact Kd.N_below (Kd.N_bound HO.out) hb2, HB.out.trans (hb2.mono HB.out.size), by simpa using hbox⟩); clear hbox hb2 hgc HO HB) | ((with_reducible refine gate_store (t := 32) (p := 11) (v := .tmp 39) rfl ?_); (refine store_whole rfl rfl 32 (.tmp 11) (.tmp 39) rfl gc (cmdC 98 s 0) ?hx ?hy _ MB.out.box (size32 rfl) ?ho cmdC_one ?_); (case hx => rfl); (case hy => first | rfl | (go_simp; done) | (go_simp; rfl)); (case ho => rfl); intro w3 hb3 hg3; have M1 := Aside0.mk (MB.out.put (x' := cmdL 98 s 0) GC.out hb3 hg3); clear MB hb3 hg3; have MB := M1; clear M1) | ((with_reducible refine gate_store (t := 32) (p := 11) (v := .tmp 43) rfl ?_); (refine store_whole rfl rfl 32 (.tmp 11) (.tmp 43) rfl gc (cmdC 116 ByteArray.empty 0) ?hx ?hy _ MB.out.box (size32 rfl) ?ho cmdC_one ?_); (case hx => rfl); (case hy => first | rfl | (go_simp; done) | (go_simp; rfl)); (case ho => rfl); intro w3 hb3 hg3; have M1 := Aside0.mk (MB.out.put (x' := cmdL 116 ByteArray.empty 0) GC.out hb3 hg3); clear MB hb3 hg3; have MB := M1; clear M1) | ((with_reducible refine gate_dst (N := 50) rfl ?_); (refine load_whole rfl 32 _ rfl ⟨gc, 0, none⟩ ?hx Try.underlying32 (cmdC 116 ByteArray.empty 0) (size32 rfl) (box_cells MB.out.box) ?_); (case hx => first | rfl | (simp [Act.eval]; done)); have HO := Aside0.mk (Kd.N_mono MB.out.n (fun _ _ => trivial)); have HB := Aside0.mk MB.out.b; clear MB) | ((with_reducible refine gate_builtin (b := .append) (xs := #[.tmp 49, .tmp 51]) rfl ?_); at_builtin; refine append_cmd (w0 := w) w.heap.size rfl (.tmp 49) (.tmp 51) rfl _ (labL s p k) 116 ByteArray.empty 0 ?aS ?aX HO.out HB.out HB.out.size (labL_room HM.out HK.out) ?_; (case aS => first | rfl | (go_simp; done)); (case aX => first | rfl | (go_simp; done)); intro v1 w1 hN hb; have HO1 := Aside0.mk (labL_succ s p k ▸ HE.out.symm ▸ hN); have HB1 := Aside0.mk hb; clear hN hb))
          go_roundw
          case rel => exact ⟨k + 1, ⟨HK.out⟩, by rw [Int.natCast_succ], HO1, HB1⟩
          case measure => exact meas_of HK.out
        · have HE := Aside0.mk (at_b (s := s) hkp hk3)
          go_wp2_with (first | ((with_reducible refine gate_dst (N := 11) rfl ?_); (refine box_event ?hg (N := 11) ?hd (cs := zero32) (t := 32) ?hr ?_); (case hd => rfl); (case hg => rfl); (case hr => first | (go_simp; done) | (go_simp; rfl)); intro gc hgc w2 hbox hb2; have GC := Aside0.mk (hgc ▸ HB.out.size : w.heap.size ≤ gc); have MB := Aside0.mk (show Made w gc _ _ z32 zero32.toList w2 from ⟨by rw [hgc]; exact Kd.N_below (Kd.N_bound HO.out) hb2, HB.out.trans (hb2.mono HB.out.size), by simpa using hbox⟩); clear hbox hb2 hgc HO HB) | ((with_reducible refine gate_store (t := 32) (p := 11) (v := .tmp 39) rfl ?_); (refine store_whole rfl rfl 32 (.tmp 11) (.tmp 39) rfl gc (cmdC 98 s 0) ?hx ?hy _ MB.out.box (size32 rfl) ?ho cmdC_one ?_); (case hx => rfl); (case hy => first | rfl | (go_simp; done) | (go_simp; rfl)); (case ho => rfl); intro w3 hb3 hg3; have M1 := Aside0.mk (MB.out.put (x' := cmdL 98 s 0) GC.out hb3 hg3); clear MB hb3 hg3; have MB := M1; clear M1) | ((with_reducible refine gate_dst (N := 50) rfl ?_); (refine load_whole rfl 32 _ rfl ⟨gc, 0, none⟩ ?hx Try.underlying32 (cmdC 98 s 0) (size32 rfl) (box_cells MB.out.box) ?_); (case hx => first | rfl | (simp [Act.eval]; done)); have HO := Aside0.mk (Kd.N_mono MB.out.n (fun _ _ => trivial)); have HB := Aside0.mk MB.out.b; clear MB) | ((with_reducible refine gate_builtin (b := .append) (xs := #[.tmp 49, .tmp 51]) rfl ?_); at_builtin; refine append_cmd (w0 := w) w.heap.size rfl (.tmp 49) (.tmp 51) rfl _ (labL s p k) 98 s 0 ?aS ?aX HO.out HB.out HB.out.size (labL_room HM.out HK.out) ?_; (case aS => first | rfl | (go_simp; done)); (case aX => first | rfl | (go_simp; done)); intro v1 w1 hN hb; have HO1 := Aside0.mk (labL_succ s p k ▸ HE.out.symm ▸ hN); have HB1 := Aside0.mk hb; clear hN hb))
          go_roundw
          case rel => exact ⟨k + 1, ⟨HK.out⟩, by rw [Int.natCast_succ], HO1, HB1⟩
          case measure => exact meas_of HK.out
    · have hkn : n = k := by have := hk.out; omega
      have HO0 := Aside0.mk (show Kd.N k32 32 wr w.heap.size (fun _ => True) _ (labL s p n) by have h := HO.out; rw [← hkn] at h; exact h)
      have b1 : ¬ (k : Int) < n := by omega
      clear HO hlt hkn hk
      obtain ⟨xs, hr, hxl, hJ⟩ := lab_good HS.out HPN.out
      have hf := f_of hr (labL_room1 HM.out) (labL_sizes HS40.out)
      obtain ⟨A1, c1, e1⟩ := Kd.N_slice HO0.out
      rw [labL_length] at e1
      subst e1
      have HN1 := Aside0.mk (labL_length s p n).symm
      have HF := Aside0.mk hf
      have HX := Aside0.mk hxl
      have HJ := Aside0.mk hJ
      clear hr hf hxl hJ
      go_wp2_with (first | (go_at_call 7; (refine (resolve_calls _ _ _ (labL s p n) xs 0 0 _ HN1.out HO0.out HF.out).mono ?_); rintro e w2 ⟨v2, rfl, hN, hB⟩; obtain ⟨A2, c2, e2⟩ := Kd.N_slice hN; rw [HX.out] at e2; subst e2; have HM2 := Aside0.mk hN; have HB2 := Aside0.mk (HB.out.trans (hB.mono HB.out.size)); clear hN hB HB HO0))
      obtain ⟨g2, e2⟩ := N_at HM2.out (by rw [HX.out]; omega)
      subst e2
      go_loop [15] (fun v15 => ∃ k : Nat, Aside0 (k ≤ n) ∧ v15 = .int .i64 k) (fun v15 => n - (intOf v15).toNat)
      case atStart => exact ⟨0, ⟨Nat.zero_le _⟩, rfl⟩
      case round =>
        obtain ⟨k, hk, rfl⟩ := hrel
        by_cases hlt : k < n
        · have hwk : wrap64 ((k : Int) + 1) = (k : Int) + 1 := wrap_small (by omega) (by omega)
          have b0 : (k : Int) < n := by omega
          have b1 : (0 : Int) ≤ k := by omega
          have HK := Aside0.mk hlt
          have hj := N_jump HM2.out (k := k) (by rw [HX.out]; omega)
          rw [HJ.out k hlt] at hj
          clear hlt
          by_cases hkp : (k : Int) = p
          · rw [want_p hkp] at hj
            have hkq : p = k := by omega
            subst hkq
            clear hkp
            by_cases hk3 : (p : Int) % 3 = 1
            · go_wp2
              go_roundw
              case rel => exact ⟨p + 1, ⟨HK.out⟩, by rw [Int.natCast_succ]⟩
              case measure => exact meas_of HK.out
            · go_wp2
              go_roundw
              case rel => exact ⟨p + 1, ⟨HK.out⟩, by rw [Int.natCast_succ]⟩
              case measure => exact meas_of HK.out
          · by_cases hk3 : (k : Int) % 3 = 1
            · rw [want_t hkp hk3] at hj
              go_wp2
              go_roundw
              case rel => exact ⟨k + 1, ⟨HK.out⟩, by rw [Int.natCast_succ]⟩
              case measure => exact meas_of HK.out
            · rw [want_b hkp hk3] at hj
              go_wp2
              go_roundw
              case rel => exact ⟨k + 1, ⟨HK.out⟩, by rw [Int.natCast_succ]⟩
              case measure => exact meas_of HK.out
        · have b1 : ¬ (k : Int) < n := by omega
          clear hlt hk
          go_wp2_with (first | (go_at_call 8; (refine (redactorlaw16_known.calls true _ known_true).mono ?_); rintro e w6 ⟨rfl, hB⟩; have HB6 := Aside0.mk (HB2.out.trans (hB.mono HB2.out.size)); clear hB HB2))
          go_ret
          exact ⟨rfl, HB6.out⟩
set_option maxRecDepth 100000 in
theorem lab_calls_none (a0 a1 : Int) (s : ByteArray) (hs : s.size = 0 ∨ 40 < s.size) (w : World) :
    Calls Try.prog 6 #[.int .u8 a0, .int .u8 a1, .string s] w fun e w' => e = .returned (.bool true) ∧ Below w.heap.size w w' := by
  go_enter Try.func6, Try.ntmps6
  rcases hs with hs | hs
  · have e : s = ByteArray.empty := by
      cases s with
      | mk d =>
        have : d = #[] := Array.eq_empty_of_size_eq_zero hs
        rw [this]; rfl
    subst e
    have hs1 : ByteArray.empty.toList.isEmpty = true := by decide +kernel
    have hs2 : ByteArray.empty.toList = [] := by decide +kernel
    go_wp2_with (first | (go_at_call 8; (refine (redactorlaw16_known.calls true _ known_true).mono ?_); rintro e w6 ⟨rfl, hB⟩; have HB6 := Aside0.mk hB; clear hB))
    go_ret
    exact ⟨rfl, HB6.out⟩
  · have hs1 : s.toList.isEmpty = false := toList_ne (by omega)
    have hs2 : ¬ (s.toList = []) := fun h => by rw [h] at hs1; cases hs1
    have hs3 : 40 < (s.size : Int) := by omega
    have hs4 : (s.toList.isEmpty = true ∨ 40 < (s.size : Int)) := .inr hs3
    go_wp2_with (first | (go_at_call 8; (refine (redactorlaw16_known.calls true _ known_true).mono ?_); rintro e w6 ⟨rfl, hB⟩; have HB6 := Aside0.mk hB; clear hB))
    go_ret
    exact ⟨rfl, HB6.out⟩
theorem lab_all (a0 a1 : Int) (s : ByteArray) (h0 : 0 ≤ a0) (h1 : 0 ≤ a1) (h2 : a1 < 256) (w : World) :
    Calls Try.prog 6 #[.int .u8 a0, .int .u8 a1, .string s] w fun e w' => e = .returned (.bool true) ∧ Below w.heap.size w w' := by
  by_cases hs : s.size = 0 ∨ 40 < s.size
  · exact lab_calls_none a0 a1 s hs w
  · obtain ⟨n, hn⟩ : ∃ n : Nat, 3 + a0 % 30 = (n : Int) := ⟨(3 + a0 % 30).toNat, by omega⟩
    have hn1 : n ≤ 60 := by omega
    have hn2 : 0 < n := by omega
    have hp0 : 0 ≤ a1 % (n : Int) := Int.emod_nonneg _ (by omega)
    have hp1 : a1 % (n : Int) < n := Int.emod_lt_of_pos _ (by omega)
    exact lab_calls a0 a1 s n (a1 % (n : Int)).toNat h0 h1 h2 (fun h => hs (.inl h)) (by omega) hn hn1 (by omega) (by omega) w
end Go.Proofs.Ytgennlcbmepchaa.PAll
