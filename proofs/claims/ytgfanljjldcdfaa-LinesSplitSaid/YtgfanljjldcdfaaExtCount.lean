/- lines.Count comes to how many lines there are. -/
import Derived.Test.YtgfanljjldcdfaaExtClone
namespace Go.Proofs.Ytgfanljjldcdfaa.PAll
open Go.RowKit Go.Shelf Go.Proofs.YtgfanljjldcdfaaW.PrintWords Go.Proofs.YtgfanljjldcdfaaW.PrintLast Go.Proofs.YtgfanljjldcdfaaW.PrintMore
attribute [local go_sem] Oper.semAt_some
set_option linter.unusedVariables false
set_option linter.unusedSimpArgs false
def CntI (w : World) (xs : List S32) (W : World) : Prop := Below w.heap.size w W ∧ W.heap[w.heap.size]? = some (.cells #[.int .i64 xs.length] 3 (0, 0))
theorem count_calls (A0 : Option Addr) (c0 : Nat) (l0 : List Int) (w : World) (hC : (Kd.int .i32).C w A0 l0.length l0) (hc0 : l0.length ≤ c0) (hn : l0.length < 1099511627776) :
    Calls Try.prog 10 #[.slice A0 l0.length c0] w fun e w' => e = .returned (.int .i64 (splitP l0).length) ∧ Below w.heap.size w w' := by
  refine (callsIn_wide (n := 3)).1 ?_
  refine callsIn_of_wp_marks Try.func10 rfl trivial ?_ rfl
  have HC := Aside0.mk hC
  have HC0 := Aside0.mk hc0
  have HN := Aside0.mk hn
  clear hC hc0 hn
  simp only [Try.ntmps10, List.size_toArray, List.length_cons, List.length_nil, Nat.reduceAdd, Nat.reduceSub, Array.replicate_succ, Array.replicate_zero, List.push_toArray, List.append_toArray, List.nil_append, List.cons_append]
  gi_wp2_with (refine ⟨trivial, ?_⟩; gi_at_call 17; (refine (callsIn_wide.2 (each_calls A0 l0.length c0 _)).mono ?_); rintro e w' ⟨rfl, rfl⟩)
  refine range_each 3 w (w.heap.size + 1) rfl (by omega) (by simp) A0 c0 l0 HC.out HC0.out HN.out ?hB (CntI w) ?h0 (fun xs W h => h.1) ?hIg (fun xs x a1 W => xs.length + 1 ≤ l0.length ∧ CntI w xs W ∧ ∃ v, a1 = { tmps := #[.slice A0 l0.length c0, undef, .int .i64 0, .pointer (some ⟨w.heap.size, 0, none⟩), .slice A0 l0.length c0, .func (.func 23) #[] #[.pointer (some ⟨w.heap.size + 1, 0, none⟩)], v, undef, undef, undef], defers := [] }) ?hAx ?hassign ?hbody ?hdone
  case hB => have := blk_new (w.alloc (Obj.cells #[Value.int .i64 0] 3)) (Obj.cells #[.slice A0 l0.length c0] 23); rwa [World.size_alloc] at this
  case h0 => exact ⟨((Below.refl _ w).alloc (Nat.le_refl _) _).alloc (by simp) _, blk_alloc (blk_new w _) _⟩
  case hIg =>
    rintro xs W W' r ⟨h1, h2⟩ hg hr
    have hne : w.heap.size ≠ r := by rcases hr with rfl | ⟨hr, _⟩ <;> (try simp at hr) <;> omega
    refine ⟨h1.grown hg h1.size (fun k hk => by cases hk; rcases hr with rfl | ⟨hr, _⟩ <;> (try simp at hr) <;> omega), (hg.block _ (blk_lt h2) (by simpa using hne)).trans h2⟩
  case hAx =>
    rintro xs x a1 W W' r ⟨hx, ⟨h1, h2⟩, hv⟩ hg hr _
    simp at hr
    have hne : w.heap.size ≠ r := by omega
    exact ⟨hx, ⟨h1.grown hg h1.size (fun k hk => by cases hk; omega), (hg.block _ (blk_lt h2) (by simpa using hne)).trans h2⟩, hv⟩
  case hassign =>
    intro m xs x ad c W r A hi hb hk hl _ _ hx _
    exact wpIn_skip ⟨fun _ _ => rfl, hx, hi, _, rfl⟩
  case hbody =>
    rintro m xs x a1 W r A ⟨hx, hi, v, rfl⟩ hb hk hl
    have c1 : W.cell? ⟨w.heap.size, 0, none⟩ = some (.int .i64 xs.length) := blk_cell hi.2 0
    have hw : wrap64 ((xs.length : Int) + 1) = (xs.length : Int) + 1 := small_wrap (by have := HN.out; omega)
    have f0 := blk_frozen hi.2 0
    refine wpIn_block (region_in (by rintro ⟨a, w, h, _⟩; cases h) (by simp) ?_)
    go_wp2
    refine ⟨trivial, fun k hk => Below.heap_setCell W _ _ k ?_, hi.1.setCell (p := ⟨w.heap.size, 0, none⟩) (Nat.le_refl _) _, ?_⟩
    · simp at hk ⊢; omega
    · have := blk_put hi.2 0 (.int .i64 ((xs.length : Int) + 1)) rfl
      rw [show (((xs ++ [x]).length : Nat) : Int) = (xs.length : Int) + 1 by simp]
      exact this
  case hdone =>
    intro W hi hk
    have c1 : W.cell? ⟨w.heap.size, 0, none⟩ = some (.int .i64 (splitP l0).length) := blk_cell hi.2 0
    obtain ⟨D, hD⟩ : ∃ D, D = ((w.alloc (Obj.cells #[Value.int .i64 0] 3)).alloc (Obj.cells #[.slice A0 l0.length c0] 23)).heap.size := ⟨_, rfl⟩
    rw [← hD] at hk ⊢
    have HD := Aside0.mk hD
    have HI := Aside0.mk hi
    have HK := Aside0.mk hk
    clear hD hi hk
    gi_wp2
    refine ⟨by simp, .inl ⟨_, _, rfl, run_takeDeferred HK.out, ?_⟩⟩
    refine ⟨_, results_tmp rfl _ _ _, rfl, ?_⟩
    exact HI.out.1.grown (grownBy_putObj' _ _ _) HI.out.1.size (fun k hk => by cases hk; have := HD.out; simp at this; omega)
/-- What Count comes to. -/
def lines_Count.f (l0 : List Int) : Option Int := if l0.length < 1099511627776 then some (splitP l0).length else none
theorem lines_Count.calls (A0 : Option Addr) (c0 : Nat) (l0 : List Int) (r : Int) (w : World) (hr0 : Kd.C (Kd.int .i32) w A0 l0.length l0) (hc0 : l0.length ≤ c0) (h : lines_Count.f l0 = some r) :
    Calls Try.prog 10 #[.slice A0 l0.length c0] w fun e w' => e = .returned (.int .i64 r) ∧ Below w.heap.size w w' := by
  unfold lines_Count.f at h
  split at h
  · cases h
    exact count_calls A0 c0 l0 w hr0 hc0 (by assumption)
  · cases h
end Go.Proofs.Ytgfanljjldcdfaa.PAll
