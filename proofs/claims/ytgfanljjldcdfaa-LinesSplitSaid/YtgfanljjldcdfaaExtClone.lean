/- slices.Clone of cells; and how a walk of plain regions goes on inside a round. -/
import Derived.Test.YtgfanljjldcdfaaExtRange
import Derived.Lib.SliceRun
namespace Go.Proofs.Ytgfanljjldcdfaa.PAll
open Go.RowKit Go.Shelf Go.Proofs.YtgfanljjldcdfaaW.PrintWords Go.Proofs.YtgfanljjldcdfaaW.PrintLast Go.Proofs.YtgfanljjldcdfaaW.PrintMore
set_option linter.unusedVariables false
set_option linter.unusedSimpArgs false

theorem R_empty {α : Type} (d : Kd α) (e : Nat) {w : World} {base g : Nat} {ok : Nat → Prop} {cur : Array Value} (hb : w.heap[g]? = some (.cells cur e (0, 0))) (hc : cur.size = 0) (hg : base ≤ g) (hok : ok g) : Kd.R d e w base ok (.slice (some ⟨g, 0, none⟩) 0 0) [] := by
  refine ⟨fun k hk => ?_, [], ⟨by simp, .inr ⟨g, 0, cur, rfl, hg, hb, Nat.le_refl _, by simp [maxLen], by simp [hc], by simp⟩⟩, ⟨by simp, fun j p hj => by simp at hj⟩⟩
  have : g = k := by simpa [Value.ownBlock] using hk
  exact this ▸ hok

theorem clone_calls (ad : Addr) (c0 : Nat) (l0 : List Int) (w : World) (hC : (Kd.int .i32).C w (some ad) l0.length l0) (hn : l0.length < 1099511627776) :
    Calls Try.prog 18 #[.slice (some ad) l0.length c0] w fun e w' => ∃ v0_ : Value, e = .returned v0_ ∧ (Kd.int .i32).R 25 w' w.heap.size (fun _ => True) v0_ l0 ∧ Below w.heap.size w w' := by
  have qT : ∀ (w : World) (a : Option Addr) (n c n' c' : Nat), (binOp .eql 23 (.slice a n c) (.slice none n' c')).run Try.prog w = .ok (.bool a.isNone) w := fun w a n c n' c' => Lib.run_eql_slice_nil w _ _ a n c n' c' Try.underlying23
  have HC := Aside0.mk hC
  have HN := Aside0.mk hn
  clear hC hn
  go_enter Try.func18, Try.ntmps18
  go_wp2_with (first | ((with_reducible refine gate_dst (N := 5) rfl ?_); (refine Kd.event_run (W := w) rfl (w1 := w.alloc (.cells #[] 25)) (v := .slice (some ⟨w.heap.size, 0, none⟩) 0 0) (by first | (go_simp; done) | (go_simp; rfl)) ?_); obtain ⟨g5, hg5⟩ : ∃ g5, g5 = w.heap.size := ⟨_, rfl⟩; obtain ⟨w5, hw5⟩ : ∃ w5, w5 = w.alloc (.cells #[] 25) := ⟨_, rfl⟩; have H5 := Aside0.mk (show w5.heap[g5]? = some (.cells #[] 25 (0, 0)) by rw [hw5, hg5]; exact blk_new w _); have HB5 := Aside0.mk (show Below w.heap.size w w5 by rw [hw5]; exact below_alloc (Below.refl _ _) _); have HG5 := Aside0.mk (show w.heap.size ≤ g5 by omega); rw [← hw5, ← hg5]; clear hw5 hg5) | ((with_reducible refine gate_builtin (b := .append) (xs := #[.tmp 5, .tmp 6]) rfl ?_); at_builtin; (refine Kd.R_append_rows (Kd.int .i32) (w0 := w) w.heap.size rfl (.tmp 5) (.tmp 6) 23 25 (.int .i32 0) 4 rfl Try.underlying23 info25 rfl (by decide) (by omega) (.slice (some ⟨g5, 0, none⟩) 0 0) ([] : List Int) l0 _ _ _ (fun _ => True) (fun _ => False) rfl rfl ?aO ?aR (fun _ _ h => h) (fun _ h => h.elim) ?aF HB5.out HB5.out.size ?aL ?_); (case aO => exact R_empty (Kd.int .i32) 25 H5.out rfl HG5.out trivial); (case aR => exact Kd.C_below HC.out HB5.out); (case aF => exact (fun _ _ => trivial)); (case aL => have := HN.out; simp only [List.length_nil]; omega); intro v1 w1 ho hb hg hat; have HO1 := Aside0.mk (show (Kd.int .i32).R 25 w1 w.heap.size (fun _ => True) v1 l0 from ho); have HB1 := Aside0.mk hb; clear ho hb hg hat; obtain ⟨A1, c1, e1⟩ := Kd.R_slice HO1.out; subst e1))
  go_ret
  exact ⟨_, rfl, HO1.out, HB1.out⟩

/-- An operation that is walked as everywhere is walked so in a round, too. -/
theorem op_in {l m : Nat} {P : Program} {o : Oper} {a : Act} {w : World} {K K' : Act → World → Prop} {Q : Exit → Act → World → Prop} (hd : ∀ c, o.op ≠ .defer c) (hK : ∀ a w, K a w → K' a w) (h : o.wp P a w K Q) : o.wpIn (Fence.wide.inRound l) m P a w K' Q := by
  refine ⟨fun _ _ => trivial, ?_⟩
  rw [show (Fence.wide.inRound l).round = some l from rfl, Oper.semAt_some l _ _ hd]
  unfold Oper.wp at h
  revert h
  generalize (execOp a.eval o).run P w = r
  intro h
  match r, h with
  | .ok (.value v) w', h => exact hK _ _ h
  | .ok .skip w', h => exact hK _ _ h
  | .ok (.defer d) w', h => exact hK _ _ h
  | .ok (.enter f args) w', h =>
    refine ⟨(fun h_ => by cases h_), CallsIn.inRound l (callsIn_wide.2 (Calls.mono h ?_))⟩
    intro e w'' he
    cases e with
    | returned v => exact hK _ _ he
    | panicked chain => exact he
    | outgrown => exact he
  | .ok (.row row args) w', h => exact ⟨(fun h_ => by cases h_), fun c cs _ => let ⟨v, w', r, s⟩ := h c cs; ⟨v, w', hK _ _ r, stepsIn_wide.2 s⟩⟩
  | .halt (.panic v) w', h => exact h
theorem list_in {l m : Nat} {P : Program} {ops : Array Oper} {Q : Exit → Act → World → Prop} (hQ : ¬ LetsOut Q) : ∀ (rest : List Oper) {a : Act} {w : World}, (∀ o ∈ rest, ∀ c, o.op ≠ .defer c) → wpList P ops Q rest a w → wpListIn (Fence.wide.inRound l) m P ops Q rest a w := by
  intro rest
  induction rest with
  | nil => intro a w _ h; exact h
  | cons o rest ih =>
    intro a w hd h
    have hr := fun a w => ih (a := a) (w := w) (fun o ho => hd o (List.mem_cons_of_mem _ ho))
    simp only [wpList] at h
    simp only [wpListIn]
    split
    · rename_i hw
      rw [if_pos hw] at h
      rcases h with h | ⟨_, h⟩
      · exact op_in (hd o List.mem_cons_self) hr h
      · exact absurd h hQ
    · rename_i hw
      rw [if_neg hw] at h
      exact ⟨fun _ _ => trivial, hr _ _ h⟩
/-- A region of a round, by a walk as everywhere. -/
theorem region_in {l m id : Nat} {P : Program} {ops : List Oper} {a : Act} {w : World} {Q : Exit → Act → World → Prop} (hQ : ¬ LetsOut Q) (hd : ∀ o ∈ ops, ∀ c, o.op ≠ .defer c) (h : wpList P ops.toArray Q ops a w) : (Code.region id ops.toArray false).wpIn (Fence.wide.inRound l) m P Q a w :=
  wpIn_region_lit (list_in hQ ops hd h)
end Go.Proofs.Ytgfanljjldcdfaa.PAll
