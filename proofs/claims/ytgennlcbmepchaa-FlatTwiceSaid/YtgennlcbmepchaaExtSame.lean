/- Same, of lists of commands without lists in them. -/
import Derived.Test.YtgennlcbmepchaaExtSame0
namespace Go.Proofs.Ytgennlcbmepchaa.PAll
open Go.RowKit Go.Maps Go.WideMaps Go.Proofs.YtgennlcbmepchaaW.PrintWords Go.Proofs.YtgennlcbmepchaaW.PrintLast Go.Proofs.YtgennlcbmepchaaW.PrintMore
set_option linter.unusedVariables false
set_option linter.unusedSimpArgs false
/-- Commands without lists in them. -/
def Plain (xs : List S32) : Prop := ∀ x ∈ xs, ∃ op lab j p, x = cmdS op lab j p
theorem plain_elem {w : World} {ad : Addr} {xs : List S32} (h : Kd.C k32 w (some ad) xs.length xs) {k : Nat} (hk : k < xs.length) {op : Int} {lab : ByteArray} {j p : Int} (hx : at32 xs k = cmdS op lab j p) :
    ∃ A2 A8 A14 A17 A21 A25 c2 c8 c14 c17 c21 c25, ∀ i u, (cmdV op lab j p A2 A8 A14 A17 A21 A25 c2 c8 c14 c17 c21 c25)[i]? = some u → w.cell? ((ad.add (k * 28)).add i) = some u := by
  obtain ⟨ad', c, e, hcl, hK, hcc⟩ := Kd.C_get h z32 (k : Int) (by omega) (by omega)
  cases e
  have hK' : k32.K w (at32 xs k) c := hK
  rw [hx] at hK'
  obtain ⟨A2, c2, A8, c8, A14, c14, A17, c17, A21, c21, A25, c25, e, _⟩ := k32_open hK'
  refine ⟨A2, A8, A14, A17, A21, A25, c2, c8, c14, c17, c21, c25, fun i u hu => ?_⟩
  rw [add_add]
  exact hcc i u (by rw [e]; exact hu)
theorem load_run {P : Program} {o : Oper} {a : Act} {W : World} (t : TypeId) (x : Operand) (ho : o.op = .load t x) (ad : Addr) (hx : a.eval x = .pointer (some ad)) {fs : Array Field} (ht : P.underlying t = some (.struct fs)) (cs : List Value) (hi : (P.info? t).map (·.size) = some cs.length)
    (hc : ∀ j v, cs[j]? = some v → W.cell? (ad.add j) = some v) : (execOp a.eval o).run P W = .ok (.value (.agg cs.toArray)) W := by
  unfold execOp
  simp only [ho, hx, Instr.loadAt, Instr.sureAddr, Sem.run_bind, Sem.run_pure, Result.andThen_ok, run_load_whole W t ad ht cs hi hc]
set_option maxRecDepth 100000 in
theorem same_calls (ad ad' : Addr) (c c' : Nat) (xs : List S32) (w : World) (h : Kd.C k32 w (some ad) xs.length xs) (h' : Kd.C k32 w (some ad') xs.length xs) (hp : Plain xs) (hn : xs.length < 1000) : Calls Try.prog 10 #[.slice (some ad) xs.length c, .slice (some ad') xs.length c'] w fun e w' => e = .returned (.bool true) ∧ Below w.heap.size w w' := by
  have HC := Aside0.mk h
  have HC' := Aside0.mk h'
  have HP := Aside0.mk hp
  clear h h' hp
  go_enter Try.func10, Try.ntmps10
  go_wp2
  go_loopw [5] (fun v5 wr => ∃ k : Nat, Aside0 (k ≤ xs.length) ∧ v5 = .int .i64 k ∧ Aside0 (Below w.heap.size w wr)) (fun v5 _ => xs.length - (intOf v5).toNat)
  case atStart => exact ⟨0, ⟨Nat.zero_le _⟩, rfl, ⟨Below.refl _ _⟩⟩
  case round =>
    obtain ⟨k, hk, rfl, HB⟩ := hrel
    by_cases hlt : k < xs.length
    · have b0 : (k : Int) < xs.length := by omega
      have b1 : (0 : Int) ≤ k := by omega
      obtain ⟨op, lab, j, p, hx⟩ := HP.out (at32 xs k) (by unfold at32; rw [List.getD_eq_getElem?_getD, List.getElem?_eq_getElem hlt]; exact List.getElem_mem hlt)
      obtain ⟨A2, A8, A14, A17, A21, A25, c2, c8, c14, c17, c21, c25, q⟩ := plain_elem HC.out hlt hx
      obtain ⟨A2', A8', A14', A17', A21', A25', c2', c8', c14', c17', c21', c25', q'⟩ := plain_elem HC'.out hlt hx
      have HQ := Aside0.mk q
      have HQ' := Aside0.mk q'
      have HK := Aside0.mk hlt
      have hwk : wrap64 ((k : Int) + 1) = (k : Int) + 1 := wrap_small (by omega) (by omega)
      clear hx q q' hlt
      go_wp2
      refine start_ (n := 10) (S := fun w' => (∀ i u, (cmdV op lab j p A2 A8 A14 A17 A21 A25 c2 c8 c14 c17 c21 c25)[i]? = some u → w'.cell? ((ad.add (k * 28)).add i) = some u) ∧ (∀ i u, (cmdV op lab j p A2' A8' A14' A17' A21' A25' c2' c8' c14' c17' c21' c25')[i]? = some u → w'.cell? ((ad'.add (k * 28)).add i) = some u)) (ds := [8]) #[false, false, false, false, false, false, false, false, false, false] (by kernel_rfl) rfl rfl ⟨fun i u hu => cell_below5 HB.out (HQ.out i u hu), fun i u hu => cell_below5 HB.out (HQ'.out i u hu)⟩ (fun hHeld => ?_)
      have HB1 := Aside0.mk (HB.out.trans (below_drew (Below.refl wr.heap.size wr) |>.mono HB.out.size))
      clear HB
      have HB := HB1
      clear HB1
      generalize wr.drew = w7 at HB hHeld ⊢
      refine pure_ (i := 0) (N := some 17) (v := ?_) (a' := ?_) #[true, false, false, false, false, false, false, false, false, false] rfl rfl (by kernel_rfl) (fun _ _ _ h => h) (Or.inl ⟨by rfl, ?_⟩) ?_ ?_
      rotate_left
      · intro w'
        go_simp
        with_reducible rfl
      rotate_left
      · simp only [Act.put, List.setIfInBounds_toArray, List.set_cons_zero, List.set_cons_succ, i64_w, i32_w]
        rfl
      refine pure_ (i := 1) (N := some 18) (v := ?_) (a' := ?_) #[true, true, false, false, false, false, false, false, false, false] rfl rfl (by kernel_rfl) (fun _ _ _ h => h) (Or.inl ⟨by rfl, ?_⟩) ?_ ?_
      rotate_left
      · intro w'
        go_simp
        with_reducible rfl
      rotate_left
      · simp only [Act.put, List.setIfInBounds_toArray, List.set_cons_zero, List.set_cons_succ, i64_w, i32_w]
        rfl
      refine pure_ (i := 2) (N := some 19) (v := ?_) (a' := ?_) #[true, true, true, false, false, false, false, false, false, false] rfl rfl (by kernel_rfl) (fun _ _ _ h => h) (Or.inl ⟨by rfl, ?_⟩) ?_ ?_
      rotate_left
      · intro w'
        go_simp
        with_reducible rfl
      rotate_left
      · simp only [Act.put, List.setIfInBounds_toArray, List.set_cons_zero, List.set_cons_succ, i64_w, i32_w]
        rfl
      refine pure_ (i := 4) (N := some 21) (v := ?_) (a' := ?_) #[true, true, true, false, true, false, false, false, false, false] rfl rfl (by kernel_rfl) (fun _ _ _ h => h) (Or.inl ⟨by rfl, ?_⟩) ?_ ?_
      rotate_left
      · intro w'
        go_simp
        with_reducible rfl
      rotate_left
      · simp only [Act.put, List.setIfInBounds_toArray, List.set_cons_zero, List.set_cons_succ, i64_w, i32_w]
        rfl
      refine pure_ (i := 5) (N := some 22) (v := ?_) (a' := ?_) #[true, true, true, false, true, true, false, false, false, false] rfl rfl (by kernel_rfl) (fun _ _ _ h => h) (Or.inl ⟨by rfl, ?_⟩) ?_ ?_
      rotate_left
      · intro w'
        go_simp
        with_reducible rfl
      rotate_left
      · simp only [Act.put, List.setIfInBounds_toArray, List.set_cons_zero, List.set_cons_succ, i64_w, i32_w]
        rfl
      refine pure_ (i := 6) (N := some 23) (v := ?_) (a' := ?_) #[true, true, true, false, true, true, true, false, false, false] rfl rfl (by kernel_rfl) (fun _ _ _ h => h) (Or.inl ⟨by rfl, ?_⟩) ?_ ?_
      rotate_left
      · intro w'
        go_simp
        with_reducible rfl
      rotate_left
      · simp only [Act.put, List.setIfInBounds_toArray, List.set_cons_zero, List.set_cons_succ, i64_w, i32_w]
        rfl
      refine take_ (i := 3) (N := some 20) (v := .agg (cmdV op lab j p A2 A8 A14 A17 A21 A25 c2 c8 c14 c17 c21 c25).toArray) (a' := ?_) #[true, true, true, true, true, true, true, false, false, false] rfl rfl (by kernel_rfl) (fun _ _ _ h => h) (Or.inl ⟨by rfl, ?_⟩) hHeld ?_ ?_
      · intro w' s
        exact load_run 32 (.tmp 19) rfl (ad.add (k * 28)) rfl Try.underlying32 (cmdV op lab j p A2 A8 A14 A17 A21 A25 c2 c8 c14 c17 c21 c25) (size32 rfl) s.1
      rotate_left
      · simp only [Act.put, List.setIfInBounds_toArray, List.set_cons_zero, List.set_cons_succ, i64_w, i32_w]
        rfl
      refine take_ (i := 7) (N := some 24) (v := .agg (cmdV op lab j p A2' A8' A14' A17' A21' A25' c2' c8' c14' c17' c21' c25').toArray) (a' := ?_) #[true, true, true, true, true, true, true, true, false, false] rfl rfl (by kernel_rfl) (fun _ _ _ h => h) (Or.inl ⟨by rfl, ?_⟩) hHeld ?_ ?_
      · intro w' s
        exact load_run 32 (.tmp 23) rfl (ad'.add (k * 28)) rfl Try.underlying32 (cmdV op lab j p A2' A8' A14' A17' A21' A25' c2' c8' c14' c17' c21' c25') (size32 rfl) s.2
      rotate_left
      · simp only [Act.put, List.setIfInBounds_toArray, List.set_cons_zero, List.set_cons_succ, i64_w, i32_w]
        rfl
      refine last_ (i := 8) (N := some 25) #[true, true, true, true, true, true, true, true, true, false] rfl rfl (by kernel_rfl) (by decide) (fun K hK => ?_)
      refine goes_ Try.func14 rfl rfl #[.agg (cmdV op lab j p A2 A8 A14 A17 A21 A25 c2 c8 c14 c17 c21 c25).toArray, .agg (cmdV op lab j p A2' A8' A14' A17' A21' A25' c2' c8' c14' c17' c21' c25').toArray] (by rfl) rfl rfl (by simp [Act.eval]) ?_
      refine (one_nil op lab j p A2 A8 A14 A17 A21 A25 A2' A8' A14' A17' A21' A25' c2 c8 c14 c17 c21 c25 c2' c8' c14' c17' c21' c25' _).mono ?_
      rintro e w8 ⟨rfl, hB⟩
      have HB1 := Aside0.mk (HB.out.trans (hB.mono HB.out.size))
      clear hB HB
      have HB := HB1
      clear HB1
      refine ⟨_, rfl, ?_⟩
      refine hK.out _ _ ?_
      clear hK K
      refine norm_ (a' := ?_) ?_ ?_
      rotate_left
      · show Act.put _ (some 25) _ = _
        simp only [Act.put, List.setIfInBounds_toArray, List.set_cons_zero, List.set_cons_succ, i64_w, i32_w]
        rfl
      refine pure_ (i := 9) (N := some 26) (v := ?_) (a' := ?_) #[true, true, true, true, true, true, true, true, true, true] rfl rfl (by kernel_rfl) (fun _ _ _ h => h) (Or.inl ⟨by rfl, ?_⟩) ?_ ?_
      rotate_left
      · intro w'
        go_simp
        with_reducible rfl
      rotate_left
      · simp only [Act.put, List.setIfInBounds_toArray, List.set_cons_zero, List.set_cons_succ, i64_w, i32_w]
        rfl
      refine done_ (by kernel_rfl) ?_
      go_wp2
      go_roundw
      case rel => exact ⟨k + 1, ⟨HK.out⟩, by rw [Int.natCast_succ], HB⟩
      case measure => exact meas_of HK.out
    · have hkn : k = xs.length := by have := hk.out; omega
      subst hkn
      go_wp2
      go_ret
      exact ⟨rfl, HB.out⟩
set_option maxRecDepth 100000 in
theorem same_none (A A' : Option Addr) (c c' : Nat) (w : World) : Calls Try.prog 10 #[.slice A 0 c, .slice A' 0 c'] w fun e w' => e = .returned (.bool true) ∧ Below w.heap.size w w' := by
  go_enter Try.func10, Try.ntmps10
  go_wp2
  go_loop [5] (fun v => v = .int .i64 0) (fun v => 0)
  case atStart => rfl
  case round =>
    subst hrel
    go_wp2
    go_ret
    exact ⟨rfl, Below.refl _ _⟩
/-- Same, of what was made. -/
theorem same_N {w : World} {base base' : Nat} {ok ok' : Nat → Prop} {v v' : Value} {xs : List S32} (h : Kd.N k32 32 w base ok v xs) (h' : Kd.N k32 32 w base' ok' v' xs) (hp : Plain xs) (hn : xs.length < 1000) : Calls Try.prog 10 #[v, v'] w fun e w' => e = .returned (.bool true) ∧ Below w.heap.size w w' := by
  obtain ⟨A, c, rfl⟩ := Kd.N_slice h
  obtain ⟨A', c', rfl⟩ := Kd.N_slice h'
  rcases Nat.eq_zero_or_pos xs.length with h0 | h0
  · rw [h0]
    exact same_none A A' c c' w
  · obtain ⟨g, rfl⟩ := N_at h h0
    obtain ⟨g', rfl⟩ := N_at h' h0
    exact same_calls _ _ c c' xs w (Kd.N_reads' h).2.2 (Kd.N_reads' h').2.2 hp hn
end Go.Proofs.Ytgennlcbmepchaa.PAll
