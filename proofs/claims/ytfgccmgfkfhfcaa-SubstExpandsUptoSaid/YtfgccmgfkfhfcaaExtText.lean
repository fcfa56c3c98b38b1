/- subst's text, where it comes to its sign over cells that stand for themselves. -/
import Derived.Test.YtfgccmgfkfhfcaaExtStep
namespace Go.Proofs.Ytfgccmgfkfhfcaa.PAll
open Go.RowKit Go.Proofs.YtfgccmgfkfhfcaaW.PrintWords Go.Proofs.YtfgccmgfkfhfcaaW.PrintLast Go.Proofs.YtfgccmgfkfhfcaaW.PrintMore
set_option linter.unusedVariables false
set_option linter.unusedSimpArgs false
/-- The cells from k up to m. -/
def segP (l : List Int) (k m : Nat) : List Int := (l.drop k).take (m - k)
theorem segP_nil (l : List Int) (k : Nat) : segP l k k = [] := by simp [segP]
theorem segP_snoc (l : List Int) (k j : Nat) (h1 : k ≤ j) (h2 : j < l.length) : segP l k (j + 1) = segP l k j ++ [l.getD j 0] := by
  unfold segP
  have hj : j - k < (l.drop k).length := by rw [List.length_drop]; omega
  rw [show j + 1 - k = (j - k) + 1 by omega, List.take_succ_eq_append_getElem hj, List.getElem_drop, List.getD_eq_getElem?_getD, List.getElem?_eq_getElem h2]
  simp [show k + (j - k) = j by omega]
theorem segP_length (l : List Int) (k m : Nat) (h1 : k ≤ m) (h2 : m ≤ l.length) : (segP l k m).length = m - k := by simp [segP]; omega
theorem step_plain {l : List Int} {e : Int} {j : Nat} (h : j < l.length) (h1 : l.getD j 0 ≠ e) (h2 : l.getD j 0 ≠ 10) (h3 : l.getD j 0 ≠ 92) : stepR l e j = ⟨l.getD j 0, false, j, true, 0, 0, j + 1⟩ := by
  unfold stepR; rw [if_neg (by omega), if_neg h1, if_neg h2, if_pos h3]
theorem step_sign {l : List Int} {e : Int} {j : Nat} (h : j < l.length) (h1 : l.getD j 0 = e) : stepR l e j = ⟨l.getD j 0, false, j, false, 0, 0, j + 1⟩ := by
  unfold stepR; rw [if_neg (by omega), if_pos h1]
set_option maxHeartbeats 1000000 in
set_option maxRecDepth 100000 in
theorem text_calls (g : Nat) (A : Option Addr) (c0 k m : Nat) (e : Int) (l : List Int) (w : World) (hb : w.heap[g]? = some (.cells #[.slice A l.length c0, .int .i64 k, .int .i32 e] 56 (0, 0))) (hC : (Kd.int .i32).C w A l.length l) (hA : 0 < l.length → ∀ ad, A = some ad → ad.block ≠ g) (hn : l.length < 1099511627776)
    (hm : m < l.length) (hkm : k ≤ m) (hp : ∀ j, k ≤ j → j < m → l.getD j 0 ≠ e ∧ l.getD j 0 ≠ 10 ∧ l.getD j 0 ≠ 92) (hs : l.getD m 0 = e) :
    Calls Try.prog 20 #[.pointer (some ⟨g, 0, none⟩)] w fun r w' => ∃ v, r = .returned (.tuple #[v, .int .i64 m, .int .u16 0, .int .i64 0]) ∧ (Kd.int .i32).R 24 w' w.heap.size (fun _ => True) v (segP l k m) ∧ w.grownBy w' (some g) ∧
      w'.heap[g]? = some (.cells #[.slice A l.length c0, .int .i64 ((m + 1 : Nat) : Int), .int .i32 e] 56 (0, 0)) := by
  have HS := Aside0.mk (show (Kd.int .i32).R 24 w w.heap.size (fun _ => True) (.slice none 0 0) (segP l k k) ∧ w.grownBy w (some g) ∧ w.heap[g]? = some (.cells #[.slice A l.length c0, .int .i64 k, .int .i32 e] 56 (0, 0)) from ⟨by rw [segP_nil]; exact Kd.R_nil _ _ _ _ _, ⟨rfl, rfl, rfl, Nat.le_refl _, fun _ _ _ => rfl⟩, hb⟩)
  have HC := Aside0.mk (And.intro hC (And.intro hA (blk_lt hb)))
  have HN := Aside0.mk (And.intro hn (And.intro hm hkm))
  have HP := Aside0.mk (And.intro hp hs)
  clear hb hC hA hn hm hkm hp hs
  go_enter Try.func20, Try.ntmps20
  go_wp2
  go_loopg [6] (m - k + 1) (fun q v wr => ∃ j : Nat, Aside0 (q + j = m + 1 ∧ k ≤ j ∧ j ≤ m) ∧ Aside0 ((Kd.int .i32).R 24 wr w.heap.size (fun _ => True) v (segP l k j) ∧ w.grownBy wr (some g) ∧ wr.heap[g]? = some (.cells #[.slice A l.length c0, .int .i64 j, .int .i32 e] 56 (0, 0))))
  case atStart => exact ⟨k, ⟨by have := HN.out.2.2; omega, Nat.le_refl _, HN.out.2.2⟩, HS⟩
  case round =>
    clear HS
    obtain ⟨j, HJ, HS⟩ := hrel
    cases gk with
    | zero => have := HJ.out; omega
    | succ k1 =>
      have hCw : (Kd.int .i32).C wr A l.length l := by
        refine ⟨HC.out.1.1, HC.out.1.2.1, fun h0 => ?_⟩
        obtain ⟨ad, ea, hc⟩ := HC.out.1.2.2 h0
        refine ⟨ad, ea, fun i p hi => ?_⟩
        obtain ⟨c, h1, h2, h3⟩ := hc i p hi
        exact ⟨c, h1, h2, fun i' u hu => HS.out.2.1.cell (h3 i' u hu) (by intro h; injection h with h; exact HC.out.2.1 h0 ad ea ((by unfold Addr.add; split <;> rfl : (ad.add _).block = ad.block).symm.trans h))⟩
      have hx := next_calls g A c0 j e l wr HS.out.2.2 hCw HC.out.2.1 HN.out.1
      obtain ⟨A3, c3, rfl⟩ := Kd.R_slice HS.out.1
      rcases Nat.lt_or_eq_of_le HJ.out.2.2 with hlt | heq
      · obtain ⟨p1, p2, p3⟩ := HP.out.1 j HJ.out.2.1 hlt
        rw [step_plain (by have := HN.out.2.1; omega) p1 p2 p3] at hx
        have HSN := Aside0.mk (segP_snoc l k j HJ.out.2.1 (by have := HN.out.2.1; omega))
        have HSL := Aside0.mk (segP_length l k j HJ.out.2.1 (by have := HN.out.2.1; omega))
        generalize l.getD j 0 = c at hx HSN
        dsimp only at hx
        have HX := Aside0.mk hx
        have HLT := Aside0.mk hlt
        clear hx hCw hlt p1 p2 p3
        generalize segP l k j = sg at HS HSN HSL
        go_wp2_with (first | (go_at_call 22; (refine HX.out.mono ?_); rintro x_ w1 ⟨rfl, hg_, hb_⟩; have HS1 := Aside0.mk (And.intro (Kd.R_mono (ok' := fun _ => True) (Kd.R_grown (Kd.R_bound HS.out.1) hg_ (fun k_ hk_ e_ => by cases e_; have := hk_.2.1; have := HC.out.2.2; omega)) (fun _ _ => trivial)) (And.intro (HS.out.2.1.trans hg_) hb_)); clear hg_ hb_ HX HS))
        have HF := Aside0.mk (And.intro (Kd.R_alloc HS1.out.1 (Obj.cells #[Value.int .i32 c, Value.bool false, Value.int .i64 j] 64)) (And.intro (HS1.out.2.1.trans (World.grownBy_alloc w1 (Obj.cells #[Value.int .i32 c, Value.bool false, Value.int .i64 j] 64) (some g))) (blk_alloc HS1.out.2.2 (Obj.cells #[Value.int .i32 c, Value.bool false, Value.int .i64 j] 64))))
        have r0 : (w1.alloc (Obj.cells #[Value.int .i32 c, Value.bool false, Value.int .i64 j] 64)).cell? ⟨w1.heap.size, 0, none⟩ = some (.int .i32 c) := blk_cell (blk_new w1 _) 0
        have r1 : (w1.alloc (Obj.cells #[Value.int .i32 c, Value.bool false, Value.int .i64 j] 64)).cell? ⟨w1.heap.size, 1, none⟩ = some (.bool false) := blk_cell (blk_new w1 _) 1
        generalize w1.alloc (Obj.cells #[Value.int .i32 c, Value.bool false, Value.int .i64 j] 64) = w2 at HF r0 r1 ⊢
        generalize w1.heap.size = gb at r0 r1 ⊢
        go_quiet (fail)
        have HF2 := Aside0.mk (And.intro (Kd.R_drewN HF.out.1 nq) (And.intro (HF.out.2.1.trans (World.grownBy.of_drewN w2 nq g)) (show (w2.drewN nq).heap[g]? = _ from HF.out.2.2)))
        have r0' : (w2.drewN nq).cell? ⟨gb, 0, none⟩ = some (.int .i32 c) := r0
        clear HF r0 r1
        generalize w2.drewN nq = w3 at HF2 r0' ⊢
        go_wp2_with (first | ((with_reducible refine gate_builtin (b := .append) (xs := #[.tmp 64, .tmp 67]) rfl ?_); at_builtin; (refine Kd.R_append (Kd.int .i32) (w0 := w3) w.heap.size rfl (.tmp 64) (.tmp 67) 23 24 (.int .i32 0) 4 rfl Try.underlying23 info24 rfl (by decide) (by omega) (.slice A3 sg.length c3) sg c [.int .i32 c] (fun _ => True) (fun _ => False) rfl ?ax rfl (fun _ h_ => h_.elim) (fun _ _ => trivial) HF2.out.1 (Below.refl _ _) HF2.out.2.1.size ?aL ?_); (case ax => first | rfl | (go_simp; done) | (go_simp; rfl)); (case aL => have := HSL.out; have := HN.out; have := HJ.out; omega); intro v4 w4 ho hb hg hat; rw [← HSN.out] at ho; have HF4 := Aside0.mk (show _ ∧ _ ∧ _ from ⟨ho, HF2.out.2.1.andThen hg (fun k_ hk_ => .inl (Kd.R_base HF2.out.1 k_ hk_)), (hb.block g HC.out.2.2).trans HF2.out.2.2⟩); clear ho hb hg hat))
        go_roundg k1
        case measure => have := HJ.out; omega
        case rel => exact ⟨j + 1, ⟨by have := HJ.out; omega, by have := HJ.out; omega, HLT.out⟩, HF4⟩
      · obtain rfl : j = m := heq
        rw [step_sign HN.out.2.1 HP.out.2] at hx
        generalize l.getD j 0 = c at hx
        dsimp only at hx
        have HX := Aside0.mk hx
        have HSL := Aside0.mk (segP_length l k j HJ.out.2.1 (by have := HN.out.2.1; omega))
        clear hx hCw
        obtain ⟨sg, hsg⟩ : ∃ sg, sg = segP l k j := ⟨_, rfl⟩
        rw [← hsg] at HS HSL ⊢
        have HSG := Aside0.mk hsg
        clear hsg
        go_wp2_with (first | (go_at_call 22; (refine HX.out.mono ?_); rintro x_ w1 ⟨rfl, hg_, hb_⟩; have HS1 := Aside0.mk (And.intro (Kd.R_mono (ok' := fun _ => True) (Kd.R_grown (Kd.R_bound HS.out.1) hg_ (fun k_ hk_ e_ => by cases e_; have := hk_.2.1; have := HC.out.2.2; omega)) (fun _ _ => trivial)) (And.intro (HS.out.2.1.trans hg_) hb_)); clear hg_ hb_ HX HS))
        have HF := Aside0.mk (And.intro (Kd.R_alloc HS1.out.1 (Obj.cells #[Value.int .i32 c, Value.bool false, Value.int .i64 j] 64)) (And.intro (HS1.out.2.1.trans (World.grownBy_alloc w1 (Obj.cells #[Value.int .i32 c, Value.bool false, Value.int .i64 j] 64) (some g))) (blk_alloc HS1.out.2.2 (Obj.cells #[Value.int .i32 c, Value.bool false, Value.int .i64 j] 64))))
        have r2 : (w1.alloc (Obj.cells #[Value.int .i32 c, Value.bool false, Value.int .i64 j] 64)).cell? ⟨w1.heap.size, 2, none⟩ = some (.int .i64 j) := blk_cell (blk_new w1 _) 2
        generalize w1.alloc (Obj.cells #[Value.int .i32 c, Value.bool false, Value.int .i64 j] 64) = w2 at HF r2 ⊢
        generalize w1.heap.size = gb at r2 ⊢
        go_quiet (fail)
        go_wp2
        refine bodyPost_ret (v := .tuple #[.slice A3 sg.length c3, .int .i64 j, .int .u16 0, .int .i64 0]) (by simp [results, Try.results20, go_sem]) rfl ⟨_, rfl, by rw [← HSG.out]; exact Kd.R_drewN HF.out.1 nq, HF.out.2.1.trans (World.grownBy.of_drewN w2 nq g), HF.out.2.2⟩
end Go.Proofs.Ytfgccmgfkfhfcaa.PAll
