/- A range over the lines of a text: one law for whoever ranges. -/
import Derived.Test.YtgfanljjldcdfaaExtEach
import Derived.Shelf.Abstract
namespace Go.Proofs.Ytgfanljjldcdfaa.PAll
open Go.RowKit Go.Shelf Go.Proofs.YtgfanljjldcdfaaW.PrintWords Go.Proofs.YtgfanljjldcdfaaW.PrintLast Go.Proofs.YtgfanljjldcdfaaW.PrintMore
set_option linter.unusedVariables false
set_option linter.unusedSimpArgs false

/-- Three blocks lie as they lay. -/
def Keeps3 (b1 b2 b3 : Nat) (W W' : World) : Prop := ∀ k, k = b1 ∨ k = b2 ∨ k = b3 → W'.heap[k]? = W.heap[k]?

theorem range_each {g : Operand} {p : Tmp} {assign body : Code} {Q : Exit → Act → World → Prop} {a : Act} {w : World} (n : Nat) (w0 : World) (Bn : Nat)
    (hg : a.eval g = .func (.func 23) #[] #[.pointer (some ⟨Bn, 0, none⟩)]) (hw0 : w0.heap.size ≤ Bn) (hBw : Bn < w.heap.size)
    (A : Option Addr) (c : Nat) (l0 : List Int) (hC : (Kd.int .i32).C w0 A l0.length l0) (hc : l0.length ≤ c) (hn : l0.length < 1099511627776) (hB : w.heap[Bn]? = some (.cells #[.slice A l0.length c] 23 (0, 0)))
    (I : List S32 → World → Prop) (h0 : I [] w) (hIB : ∀ xs W, I xs W → Below w0.heap.size w0 W)
    (hIg : ∀ xs W W' r, I xs W → W.grownBy W' (some r) → (r = Bn ∨ (w.heap.size ≤ r ∧ ∃ o : Obj, W.heap[r]? = some o ∧ o.isCells = false)) → I xs W')
    (Ax : List S32 → S32 → Act → World → Prop) (hAx : ∀ xs x a1 W W' r, Ax xs x a1 W → W.grownBy W' (some r) → w.heap.size ≤ r → (∃ o : Obj, W.heap[r]? = some o ∧ o.isCells = false) → Ax xs x a1 W')
    (hassign : ∀ (m : Nat) (xs : List S32) (x : S32) (ad : Addr) (c : Nat) (W : World) (r : Loop) (A : Value), I xs W → W.heap[Bn]? = some (.cells #[A] 23 (0, 0)) → W.heap[w.heap.size]? = some (.deferred (some [])) → W.heap[w.heap.size + 1]? = some (.loop r) →
      (Kd.int .i32).C w0 (some ad) x.f0.length x.f0 → x.f0.length ≤ c → xs.length + 1 ≤ l0.length → x.f0.length ≤ l0.length →
      assign.wpIn (Fence.wide.inRound (w.heap.size + 1)) m Try.prog (Exit.then (fun a1 W1 => Keeps3 Bn w.heap.size (w.heap.size + 1) W W1 ∧ Ax xs x a1 W1) (fun _ _ _ => False)) { tmps := a.tmps.setIfInBounds p (.agg #[.slice (some ad) x.f0.length c, .bool x.f1]), defers := [] } W)
    (hbody : ∀ (m : Nat) (xs : List S32) (x : S32) (a1 : Act) (W : World) (r : Loop) (A : Value), Ax xs x a1 W → W.heap[Bn]? = some (.cells #[A] 23 (0, 0)) → W.heap[w.heap.size]? = some (.deferred (some [])) → W.heap[w.heap.size + 1]? = some (.loop r) →
      body.wpIn (Fence.wide.inRound (w.heap.size + 1)) m Try.prog (fun e a2 W2 => e = .normal ∧ Keeps3 Bn w.heap.size (w.heap.size + 1) W W2 ∧ I (xs ++ [x]) W2) a1 W)
    (hdone : ∀ W, I (splitP l0) W → W.heap[w.heap.size]? = some (.deferred (some [])) → Q .normal { a with defers := { target := .collected w.heap.size, args := #[] } :: a.defers } W) :
    (Code.rangeFunc g #[p] assign body).wpIn Fence.wide n Try.prog Q a w := by
  refine wpIn_rangeFunc ?_
  intro fn hfn
  obtain ⟨rec, hrec⟩ : ∃ rec : LoopState → Loop, rec = fun st => { state := st, pending := none, fn, tmps := a.tmps, params := #[p], assign, body, defers := w.heap.size } := ⟨_, rfl⟩
  obtain ⟨W1, hW1⟩ : ∃ W1, (w.alloc (.deferred (some []))).alloc (.loop (rec .ready)) = W1 := ⟨_, rfl⟩
  have hL1 : W1.heap[w.heap.size + 1]? = some (.loop (rec .ready)) := by
    rw [← hW1]; have := World.alloc_heap_new (w.alloc (.deferred (some []))) (.loop (rec .ready)); rwa [World.size_alloc] at this
  have hK1 : W1.heap[w.heap.size]? = some (.deferred (some [])) := by
    rw [← hW1]; exact (Below.heap_alloc _ _ _ (by simp)).trans (World.alloc_heap_new w _)
  have hB1 : W1.heap[Bn]? = some (.cells #[.slice A l0.length c] 23 (0, 0)) := by
    rw [← hW1]; exact (Below.heap_alloc _ _ _ (by simp; omega)).trans ((Below.heap_alloc _ _ _ hBw).trans hB)
  have hI1 : I [] W1 := by
    rw [← hW1]; exact hIg _ _ _ Bn (hIg _ _ _ Bn h0 (World.grownBy_alloc w _ _) (.inl rfl)) (World.grownBy_alloc _ _ _) (.inl rfl)
  refine ⟨w.heap.size + 1, [{ target := .collected w.heap.size, args := #[] }], W1, { target := .fn (.func 23) #[.pointer (some ⟨Bn, 0, none⟩)], args := #[.func (.yield (w.heap.size + 1)) #[] #[]] }, W1, 23,
    #[.func (.yield (w.heap.size + 1)) #[] #[]] ++ #[.pointer (some ⟨Bn, 0, none⟩)], W1, ?_, ?_, ?_, ?_, (fun h => by cases h), ?_⟩
  · rw [← hW1, hrec]; exact run_enterLoop_outer _ _ _ _ _
  · simp only [resolve, hg]
    simp [go_sem]
  · intro f' hf'; trivial
  · have eg := fun args w => enters_of Try.func23 (by kernel_rfl) rfl args w
    simp [invoke, go_sem, eg]
  · refine (each1_calls w0 Bn (w.heap.size + 1) (n - 1) (fun xs W => I xs W ∧ W.heap[w.heap.size + 1]? = some (.loop (rec .ready)) ∧ W.heap[w.heap.size]? = some (.deferred (some [])))
      (fun xs W h => hIB xs W h.1) (fun xs W W' h hgr => ⟨hIg _ _ _ _ h.1 hgr (.inl rfl), (hgr.block _ (Array.getElem?_eq_some_iff.1 h.2.1).1 (by simp; omega)).trans h.2.1, (hgr.block _ (Array.getElem?_eq_some_iff.1 h.2.2).1 (by simp; omega)).trans h.2.2⟩) hw0
      A c l0 hC hc hn ?_ W1 ⟨hI1, hL1, hK1⟩ hB1).mono ?_
    · rintro xs x ad c' W Av ⟨hi, hl, hk⟩ hBn hCx hcx hlx hlx2
      have hy := run_yield (P := Try.prog) (args := #[.agg #[.slice (some ad) x.f0.length c', .bool x.f1]]) hl (by rw [hrec]; rfl)
      rw [hrec] at hy
      refine ⟨fn, _, assign, body, hy, roundIn_of_wpIn hfn ?_⟩
      have hta : ((#[p] : Array Tmp).zip #[Value.agg #[.slice (some ad) x.f0.length c', .bool x.f1]]).foldl (fun tmps (t, v) => tmps.setIfInBounds t v) a.tmps = a.tmps.setIfInBounds p (.agg #[.slice (some ad) x.f0.length c', .bool x.f1]) := by simp
      dsimp only
      rw [hta]
      refine wpIn_mono (hassign _ xs x ad c' W _ _ hi hBn hk hl hCx hcx hlx hlx2) ?_
      rintro e a1 Wa hp
      cases e with
      | normal =>
        obtain ⟨hk3, hax⟩ := hp
        have hla := (hk3 _ (.inr (.inr rfl))).trans hl
        have hka := (hk3 _ (.inr (.inl rfl))).trans hk
        have hba := (hk3 _ (.inl rfl)).trans hBn
        have hlt := (Array.getElem?_eq_some_iff.1 hla).1
        refine ⟨_, run_beginRound hla (by rw [hrec]), ?_⟩
        have hl2 : (Wa.putObj (w.heap.size + 1) (.loop { rec .ready with state := .busy })).heap[w.heap.size + 1]? = some (.loop { rec .ready with state := .busy }) := World.putObj_heap_same hlt
        have hk2 : (Wa.putObj (w.heap.size + 1) (.loop { rec .ready with state := .busy })).heap[w.heap.size]? = some (.deferred (some [])) := (World.putObj_heap_other (by omega)).trans hka
        have hb2 : (Wa.putObj (w.heap.size + 1) (.loop { rec .ready with state := .busy })).heap[Bn]? = some (.cells #[Av] 23 (0, 0)) := (World.putObj_heap_other (by omega)).trans hba
        refine wpIn_mono (hbody _ xs x a1 _ _ _ (hAx _ _ _ _ _ (w.heap.size + 1) hax (grownBy_putObj' _ _ _) (by omega) ⟨_, hla, rfl⟩) hb2 hk2 hl2) ?_
        rintro e a2 W3 ⟨rfl, hk3', hi3⟩
        have hl3 := (hk3' _ (.inr (.inr rfl))).trans hl2
        have hkk := (hk3' _ (.inr (.inl rfl))).trans hk2
        have hb3 := (hk3' _ (.inl rfl)).trans hb2
        have hr := run_endRound (P := Try.prog) none hl3
        rw [hrec] at hr
        have hlt3 := (Array.getElem?_eq_some_iff.1 hl3).1
        refine ⟨_, _, hr, rfl, ⟨hIg _ _ _ (w.heap.size + 1) hi3 (grownBy_putObj' _ _ _) (.inr ⟨by omega, _, hl3, rfl⟩), ?_, (World.putObj_heap_other (by omega)).trans hkk⟩, (World.putObj_heap_other (by omega)).trans hb3⟩
        rw [hrec]
        exact World.putObj_heap_same hlt3
      | exit id => exact hp.elim
      | goto t => exact hp.elim
      | ret => exact hp.elim
      | panic ch => exact hp.elim
      | outgrown => exact hp.elim
    · rintro e W2 ⟨⟨v, rfl⟩, hi, hl, hk⟩
      refine ⟨none, _, by have := run_endLoop (P := Try.prog) hl (by rw [hrec]; simp); rw [hrec] at this; exact this, ?_⟩
      exact hdone _ (hIg _ _ _ (w.heap.size + 1) hi (grownBy_putObj' _ _ _) (.inr ⟨by omega, _, hl, rfl⟩)) ((World.putObj_heap_other (by omega)).trans hk)
end Go.Proofs.Ytgfanljjldcdfaa.PAll
