/- slices.Clone of commands: a row of the call's own, whose elements are the old ones'. -/
import Derived.Test.YtgennlcbmepchaaExtLead
import Derived.Lib.SliceRun
namespace Go.Proofs.Ytgennlcbmepchaa.PAll
open Go.RowKit Go.Maps Go.WideMaps Go.Proofs.YtgennlcbmepchaaW.PrintWords Go.Proofs.YtgennlcbmepchaaW.PrintLast Go.Proofs.YtgennlcbmepchaaW.PrintMore

theorem N_empty {α : Type} (d : Kd α) (e : Nat) {w : World} {base g : Nat} {ok : Nat → Prop} {cur : Array Value} (hb : w.heap[g]? = some (.cells cur e (0, 0))) (hc : cur.size = 0) (hg : base ≤ g) (hok : ok g) : Kd.N d e w base ok (.slice (some ⟨g, 0, none⟩) 0 0) [] := by
  refine ⟨fun k hk => ?_, [], rfl, ⟨fun k hk => hk.symm, [], ⟨by simp, .inr ⟨g, 0, cur, rfl, hg, hb, Nat.le_refl _, by simp [maxLen], by simp [hc], by simp⟩⟩, ⟨by simp, fun j p hj => by simp at hj⟩⟩, fun j x c hx => by simp at hx⟩
  have : g = k := by simpa [Value.ownBlock] using hk
  exact this ▸ hok

theorem clone_calls (P0_ : Nat → Prop) (A0 : Option Addr) (c0 : Nat) (l0 : List S32) (w : World) (hs0 : Kd.V k32 32 w w.heap.size (fun k_ => P0_ k_) (.slice A0 l0.length c0) l0) (hn : l0.length < 475464487686) :
    Calls Try.prog 11 #[.slice A0 l0.length c0] w fun e w' => ∃ v0_ : Value, e = .returned v0_ ∧ Kd.N k32 32 w' w.heap.size (fun k_ => (P0_ k_ ∨ w.heap.size ≤ k_)) v0_ l0 ∧ Below w.heap.size w w' := by
  have qT : ∀ (w : World) (a : Option Addr) (n c n' c' : Nat), (binOp .eql 22 (.slice a n c) (.slice none n' c')).run Try.prog w = .ok (.bool a.isNone) w := fun w a n c n' c' => Lib.run_eql_slice_nil w _ _ a n c n' c' Try.underlying22
  have HF := Aside0.mk (Kd.V_F hs0)
  have HN := Aside0.mk hn
  have HB := Aside0.mk (Below.refl w.heap.size w)
  clear hs0 hn
  cases A0 with
  | none =>
    have h0 : l0 = [] := by
      have := (Kd.F_now HF.out).2.2
      cases l0 with
      | nil => rfl
      | cons x r => obtain ⟨ad, e, _⟩ := this (by simp); cases e
    subst h0
    go_enter Try.func11, Try.ntmps11
    go_wp2
    go_ret
    exact ⟨_, rfl, Kd.N_nil _ _ _ _ _, HB.out⟩
  | some a0 =>
    go_enter Try.func11, Try.ntmps11
    go_wp2_with (first | ((with_reducible refine gate_dst (N := 5) rfl ?_); (refine Kd.event_run (W := w) rfl (w1 := w.alloc (.cells #[] 32)) (v := .slice (some ⟨w.heap.size, 0, none⟩) 0 0) (by first | (go_simp; done) | (go_simp; rfl)) ?_); obtain ⟨g5, hg5⟩ : ∃ g5, g5 = w.heap.size := ⟨_, rfl⟩; obtain ⟨w5, hw5⟩ : ∃ w5, w5 = w.alloc (.cells #[] 32) := ⟨_, rfl⟩; have H5 := Aside0.mk (show w5.heap[g5]? = some (.cells #[] 32 (0, 0)) by rw [hw5, hg5]; exact blk_new w _); have HB5 := Aside0.mk (show Below w.heap.size w w5 by rw [hw5]; exact below_alloc (Below.refl _ _) _); have HG5 := Aside0.mk (show w.heap.size ≤ g5 by omega); rw [← hw5, ← hg5]; clear hw5 hg5) | ((with_reducible refine gate_builtin (b := .append) (xs := #[.tmp 5, .tmp 6]) rfl ?_); at_builtin; (refine Kd.N_append_rows k32 (w0 := w) w.heap.size rfl (.tmp 5) (.tmp 6) 22 32 _ 296 rfl Try.underlying22 info32 rfl (by decide) (by omega) (.slice (some ⟨g5, 0, none⟩) 0 0) ([] : List S32) l0 _ _ _ (fun k_ => (P0_ k_ ∨ w.heap.size ≤ k_)) (fun k_ => P0_ k_ ∧ k_ < w.heap.size) rfl rfl ?aO ?aR ?aK ?aF HB5.out HB5.out.size ?aL ?_); (case aO => exact N_empty k32 32 H5.out rfl HG5.out (.inr HG5.out)); (case aR => exact Kd.F_below (Kd.F_bound HF.out) HB5.out); (case aK => rintro k_ ⟨h1, h2⟩; refine ⟨.inl h1, fun e_ => ?_⟩; (have e2_ : k_ = g5 := by simpa [Value.ownBlock] using e_); have := HG5.out; omega); (case aF => intro k_ hk_; exact .inr (Nat.le_trans HB5.out.size hk_)); (case aL => have := HN.out; simp only [List.length_nil]; omega); intro v1 w1 ho hb hg hat; have HO1 := Aside0.mk (show Kd.N k32 32 w1 w.heap.size (fun k_ => (P0_ k_ ∨ w.heap.size ≤ k_)) v1 l0 from ho); have HB1 := Aside0.mk hb; clear ho hb hg hat; obtain ⟨A1, c1, e1⟩ := Kd.N_slice HO1.out; subst e1))
    go_ret
    exact ⟨_, rfl, HO1.out, HB1.out⟩
end Go.Proofs.Ytgennlcbmepchaa.PAll
