/- lines.Split comes to the lines. -/
import Derived.Test.YtgfanljjldcdfaaExtClone
namespace Go.Proofs.Ytgfanljjldcdfaa.PAll
open Go.RowKit Go.Shelf Go.Proofs.YtgfanljjldcdfaaW.PrintWords Go.Proofs.YtgfanljjldcdfaaW.PrintLast Go.Proofs.YtgfanljjldcdfaaW.PrintMore
attribute [local go_sem] Oper.semAt_some
set_option linter.unusedVariables false
set_option linter.unusedSimpArgs false
/-- Between two rounds: the box of what has been collected, at the head of what is new. -/
def SplI (w : World) (no : Nat → Prop) (xs : List S32) (W : World) : Prop := Below w.heap.size w W ∧ ∃ v, W.heap[w.heap.size]? = some (.cells #[v] 28 (0, 0)) ∧ Kd.S k32 32 W w.heap.size (fun k => k ≠ w.heap.size + 1 ∧ ¬ no k) v xs
theorem SplI.kept {w W W' : World} {no : Nat → Prop} {xs : List S32} {r : Nat} (h : SplI w no xs W) (hg : W.grownBy W' (some r)) (hr : r = w.heap.size + 1 ∨ (w.heap.size + 2 ≤ r ∧ ∃ o : Obj, W.heap[r]? = some o ∧ o.isCells = false)) : SplI w no xs W' := by
  obtain ⟨h1, v, h2, h3⟩ := h
  have hne : w.heap.size ≠ r := by rcases hr with rfl | ⟨hr, _⟩ <;> omega
  refine ⟨h1.grown hg h1.size (fun k hk => by cases hk; omega), v, (hg.block _ (blk_lt h2) (by simpa using hne)).trans h2, ?_⟩
  refine Kd.S_mono (Kd.S_grown (Kd.S_bound h3) hg ?_) (fun k hk => hk.1)
  rintro k ⟨⟨hk, _⟩, _, _, q, _, cells, hc⟩ e
  cases e
  rcases hr with rfl | ⟨_, o, ho, hn⟩
  · exact hk rfl
  · rw [hc] at ho; cases ho; cases hn
/-- Inside a round: the loop variable's box. -/
def SplA (w : World) (A0 : Option Addr) (c0 n0 : Nat) (xs : List S32) (x : S32) (a1 : Act) (W : World) : Prop :=
  xs.length + 1 ≤ n0 ∧ x.f0.length ≤ n0 ∧ ∃ (Bx : Nat) (ad : Addr) (c : Nat), w.heap.size + 2 ≤ Bx ∧ SplI w (· = Bx) xs W ∧ W.heap[Bx]? = some (.cells #[.slice (some ad) x.f0.length c, .bool x.f1] 32 (0, 0)) ∧ x.f0.length ≤ c ∧ (Kd.int .i32).C w (some ad) x.f0.length x.f0 ∧
    ∃ v7 : Value, a1 = { tmps := #[.slice A0 n0 c0, undef, .slice none 0 0, .pointer (some ⟨w.heap.size, 0, none⟩), .pointer (some ⟨Bx, 0, none⟩), .slice A0 n0 c0, .func (.func 23) #[] #[.pointer (some ⟨w.heap.size + 1, 0, none⟩)], v7, undef, undef, undef, undef, undef, undef, undef, undef, undef], defers := [] }
theorem SplA.kept {w W W' : World} {A0 : Option Addr} {c0 n0 : Nat} {xs : List S32} {x : S32} {a1 : Act} {r : Nat} (h : SplA w A0 c0 n0 xs x a1 W) (hg : W.grownBy W' (some r)) (hr : w.heap.size + 2 ≤ r) (ho : ∃ o : Obj, W.heap[r]? = some o ∧ o.isCells = false) : SplA w A0 c0 n0 xs x a1 W' := by
  obtain ⟨h1, h2, Bx, ad, c, hb, hI, hx, h3, h4, h5⟩ := h
  have hne : Bx ≠ r := by rintro rfl; obtain ⟨o, ho, hn⟩ := ho; rw [hx] at ho; cases ho; cases hn
  exact ⟨h1, h2, Bx, ad, c, hb, hI.kept hg (.inr ⟨hr, ho⟩), (hg.block _ (blk_lt hx) (by simpa using hne)).trans hx, h3, h4, h5⟩
/-- In the midst of a round: the loop variable's cells are clones. -/
structure SplM (w W : World) (v : Value) (xs : List S32) (Bx : Nat) (v1 : Value) (x : S32) (W2 : World) : Prop where
  bel : Below w.heap.size w W2
  box : W2.heap[w.heap.size]? = some (.cells #[v] 28 (0, 0))
  var : W2.heap[Bx]? = some (.cells #[v1, .bool x.f1] 32 (0, 0))
  row : Kd.S k32 32 W2 w.heap.size (fun k => (k ≠ w.heap.size + 1 ∧ ¬ False) ∧ ¬ W.heap.size ≤ k) v xs
  elem : k32.M W2 w.heap.size (fun k => W.heap.size ≤ k) x [v1, .bool x.f1]
  big : w.heap.size + 2 ≤ W2.heap.size
  bigW : w.heap.size + 2 ≤ W.heap.size
  kept : ∀ k, k < W.heap.size → k ≠ Bx → W2.heap[k]? = W.heap[k]?
  bx : w.heap.size + 2 ≤ Bx
  varW : ∃ cs, W.heap[Bx]? = some (.cells cs 32 (0, 0))
theorem SplM.mk_ {w W w1 : World} {v : Value} {xs : List S32} {Bx c : Nat} {ad : Addr} {v1 : Value} {x : S32} (h1 : Below w.heap.size w W) (h2 : W.heap[w.heap.size]? = some (.cells #[v] 28 (0, 0))) (h3 : Kd.S k32 32 W w.heap.size (fun k => k ≠ w.heap.size + 1 ∧ ¬ k = Bx) v xs)
    (h4 : W.heap[Bx]? = some (.cells #[.slice (some ad) x.f0.length c, .bool x.f1] 32 (0, 0))) (h5 : w.heap.size + 2 ≤ Bx) (hR : (Kd.int .i32).R 25 w1 W.heap.size (fun _ => True) v1 x.f0) (hB : Below W.heap.size W w1) : SplM w W v xs Bx v1 x (w1.setCell ⟨Bx, 0, none⟩ v1) := by
  have hlt := blk_lt h4
  have hx1 : w1.heap[Bx]? = some (.cells #[.slice (some ad) x.f0.length c, .bool x.f1] 32 (0, 0)) := (hB.block Bx hlt).trans h4
  have hsz : (w1.setCell ⟨Bx, 0, none⟩ v1).heap.size = w1.heap.size := by simp [World.setCell]
  refine { bel := (h1.trans (hB.mono h1.size)).setCell (p := ⟨Bx, 0, none⟩) (by simp; omega) v1, box := ?_, var := ?_, row := ?_, elem := ?_, big := ?_, bigW := by omega, kept := ?_, bx := h5, varW := ⟨_, h4⟩ }
  · exact (Below.heap_setCell w1 ⟨Bx, 0, none⟩ v1 _ (by simp; omega)).trans ((hB.block _ (blk_lt h2)).trans h2)
  · exact blk_put hx1 0 v1 rfl
  · refine Kd.S_mono (Kd.S_step (Kd.S_bound h3) (w1 := w1.setCell ⟨Bx, 0, none⟩ v1) ?_) ?_
    · intro k hk hkl
      exact (Below.heap_setCell w1 ⟨Bx, 0, none⟩ v1 k hk.1.2).trans (hB.block k hkl)
    · rintro k ⟨⟨h, _⟩, _, h', _⟩
      exact ⟨⟨h, not_false⟩, by omega⟩
  · refine k32_mkM _ _ _ x (Kd.R_lower (Kd.R_mono (Kd.R_set (Kd.R_bound hR) hx1 (by decide) 0 v1) ?_) h1.size)
    exact fun k hk => hk.2.1
  · rw [hsz]; have := hB.size; omega
  · intro k hk hne
    exact (Below.heap_setCell w1 ⟨Bx, 0, none⟩ v1 k hne).trans (hB.block k hk)
section
variable {w W W2 w3 : World} {v v1 : Value} {xs : List S32} {Bx : Nat} {x : S32}
theorem SplM.own (h : SplM w W v xs Bx v1 x W2) {k : Nat} (hk : v.ownBlock = some k) : k < W.heap.size ∧ k ≠ w.heap.size + 1 ∧ ∃ cells, W2.heap[k]? = some (.cells cells 32 (0, 0)) := by
  have h1 := (Kd.S_R h.row).1 k hk
  exact ⟨by have := h1.2; omega, h1.1.1, Kd.S_typed h.row k hk⟩
theorem SplM.fresh (h : SplM w W v xs Bx v1 x W2) : ∀ k, W.heap.size ≤ k → (k ≠ w.heap.size + 1 ∧ ¬ False) ∧ some k ≠ v.ownBlock := by
  intro k hk
  have := h.bigW
  exact ⟨⟨by omega, not_false⟩, fun e => by have := (h.own e.symm).1; omega⟩
theorem SplM.later (h : SplM w W v xs Bx v1 x W2) (hg : W2.grownBy w3 v.ownBlock) : w3.heap[w.heap.size]? = some (.cells #[v] 28 (0, 0)) := by
  refine (hg.block _ (blk_lt h.box) (fun e => ?_)).trans h.box
  obtain ⟨_, _, cells, hc⟩ := h.own e.symm
  rw [h.box] at hc
  cases hc
theorem SplM.keeps (h : SplM w W v xs Bx v1 x W2) (hg : W2.grownBy w3 v.ownBlock) {A : Value} {b2 b3 : Nat} {r : Loop} (h1 : W.heap[w.heap.size + 1]? = some (.cells #[A] 23 (0, 0))) (h2 : W.heap[b2]? = some (.deferred (some []))) (h3 : W.heap[b3]? = some (.loop r)) (u : Value) :
    Keeps3 (w.heap.size + 1) b2 b3 W (w3.setCell ⟨w.heap.size, 0, none⟩ u) := by
  have hx := h.var
  have key : ∀ k o, W.heap[k]? = some o → (∀ cells t, t = 32 ∨ t = 28 → o ≠ .cells cells t (0, 0)) → k ≠ Bx → (w3.setCell ⟨w.heap.size, 0, none⟩ u).heap[k]? = W.heap[k]? := by
    intro k o hk ho hne
    have h2k := h.kept k (Array.getElem?_eq_some_iff.1 hk).1 hne
    have hnb : k ≠ w.heap.size := by
      rintro rfl
      have := h.box
      rw [h2k, hk] at this
      exact ho _ 28 (.inr rfl) (Option.some.inj this)
    refine (Below.heap_setCell w3 ⟨w.heap.size, 0, none⟩ u k hnb).trans ((hg.block k ?_ ?_).trans h2k)
    · rw [hk] at h2k; exact (Array.getElem?_eq_some_iff.1 h2k).1
    · intro e
      obtain ⟨_, _, cells, hc⟩ := h.own e.symm
      rw [h2k, hk] at hc
      exact ho _ 32 (.inl rfl) (Option.some.inj hc)
  have hbx := h.bx
  intro k hk
  rcases hk with rfl | rfl | rfl
  · exact key _ _ h1 (by rintro cells t (rfl | rfl) e <;> cases e) (by omega)
  · refine key _ _ h2 (by rintro cells t _ e; cases e) ?_
    rintro rfl
    obtain ⟨cs, hc⟩ := h.varW
    rw [h2] at hc
    cases hc
  · refine key _ _ h3 (by rintro cells t _ e; cases e) ?_
    rintro rfl
    obtain ⟨cs, hc⟩ := h.varW
    rw [h3] at hc
    cases hc
end
theorem split_calls (A0 : Option Addr) (c0 : Nat) (l0 : List Int) (w : World) (hC : (Kd.int .i32).C w A0 l0.length l0) (hc0 : l0.length ≤ c0) (hn : l0.length < 1099511627776) :
    Calls Try.prog 11 #[.slice A0 l0.length c0] w fun e w' => ∃ v0_ : Value, e = .returned v0_ ∧ Kd.S k32 32 w' w.heap.size (fun _ => True) v0_ (splitP l0) ∧ Below w.heap.size w w' := by
  refine (callsIn_wide (n := 3)).1 ?_
  refine callsIn_of_wp_marks Try.func11 rfl trivial ?_ rfl
  have HC := Aside0.mk hC
  have HC0 := Aside0.mk hc0
  have HN := Aside0.mk hn
  clear hC hc0 hn
  simp only [Try.ntmps11, List.size_toArray, List.length_cons, List.length_nil, Nat.reduceAdd, Nat.reduceSub, Array.replicate_succ, Array.replicate_zero, List.push_toArray, List.append_toArray, List.nil_append, List.cons_append]
  gi_wp2_with (refine ⟨trivial, ?_⟩; gi_at_call 17; (refine (callsIn_wide.2 (each_calls A0 l0.length c0 _)).mono ?_); rintro e w' ⟨rfl, rfl⟩)
  refine range_each 3 w (w.heap.size + 1) rfl (by omega) (by simp) A0 c0 l0 HC.out HC0.out HN.out ?hB (SplI w (fun _ => False)) ?h0 (fun xs W h => h.1) ?hIg (SplA w A0 c0 l0.length) ?hAx ?hassign ?hbody ?hdone
  case hB => have := blk_new (w.alloc (Obj.cells #[Value.slice none 0 0] 28)) (Obj.cells #[.slice A0 l0.length c0] 23); rwa [World.size_alloc] at this
  case h0 => exact ⟨((Below.refl _ w).alloc (Nat.le_refl _) _).alloc (by simp) _, _, blk_alloc (blk_new w _) _, Kd.S_nil _ _ _ _ _⟩
  case hIg =>
    intro xs W W' r hI hg hr
    exact hI.kept hg (by simpa using hr)
  case hAx =>
    intro xs x a1 W W' r hA hg hr ho
    exact hA.kept hg (by simpa using hr) ho
  case hassign =>
    intro m xs x ad c W r A hi hb hk hl hCx hcx hx hx2
    refine region_in (by rintro ⟨a, w, h⟩; cases h) (by simp) ?_
    have HI := Aside0.mk hi
    have HX := Aside0.mk (And.intro hCx (And.intro hcx (And.intro hx hx2)))
    have HT := Aside0.mk (And.intro (blk_lt hb) (And.intro (blk_lt hk) (blk_lt hl)))
    clear hi hb hk hl hCx hcx hx hx2
    go_wp2
    refine ⟨fun k hk => Below.heap_alloc _ _ _ ?_, ?_⟩
    · have := HT.out; simp at this hk; omega
    · obtain ⟨h1, v, h2, h3⟩ := HI.out
      obtain ⟨g1, g2, g3, g4⟩ := HX.out
      refine ⟨g3, g4, W.heap.size, ad, c, by have := HT.out; simp at this; omega, ⟨h1.alloc h1.size _, v, blk_alloc h2 _, ?_⟩, blk_new _ _, g2, g1, _, rfl⟩
      exact Kd.S_mono (Kd.S_alloc (Kd.S_bound h3) _) (fun k hk => ⟨hk.1.1, fun e => by have := hk.2.2.1; omega⟩)
  case hbody =>
    rintro m xs x a1 W r A ⟨g1, g2, Bx, ad, c, g3, ⟨h1, v, h2, h3⟩, g4, g5, g6, v7, rfl⟩ hb hk hl
    have c1 : W.cell? ⟨Bx, 0, none⟩ = some (.slice (some ad) x.f0.length c) := blk_cell g4 0
    have f1 := blk_frozen g4 0
    have HI := Aside0.mk (And.intro h1 (And.intro h2 (And.intro h3 (And.intro g4 (And.intro g3 (And.intro g1 (And.intro g2 g5)))))))
    have HT := Aside0.mk (And.intro hb (And.intro hk hl))
    have HCx := Aside0.mk (Kd.C_below g6 h1)
    have HNx := Aside0.mk (show x.f0.length < 1099511627776 by have := HN.out; omega)
    clear h1 h2 h3 g1 g2 g3 g4 g5 g6 hb hk hl
    refine wpIn_block (wpIn_seq (region_in (by rintro ⟨a, w, h, _⟩; cases h) (by simp) ?_))
    go_wp2_with fail
    refine (clone_calls ad c x.f0 _ HCx.out HNx.out).mono ?_
    rintro e w1 ⟨v1, rfl, hR, hB⟩
    obtain ⟨A1, c1_, e1⟩ := Kd.R_slice hR
    subst e1
    have HR := Aside0.mk hR
    have HB := Aside0.mk hB
    have k1 : w1.cell? ⟨Bx, 0, none⟩ = some (.slice (some ad) x.f0.length c) := (hB.cell (World.block_lt_of_cell? W _ c1)).trans c1
    have k2 : w1.frozen? ⟨Bx, 0, none⟩ = false := (hB.frozen (World.block_lt_of_cell? W _ c1)).trans f1
    clear hR hB
    go_wp2
    have HW := Aside0.mk (show SplM w W v xs Bx (.slice A1 x.f0.length c1_) x (w1.setCell ⟨Bx, 0, none⟩ (.slice A1 x.f0.length c1_)) from SplM.mk_ HI.out.1 HI.out.2.1 HI.out.2.2.1 HI.out.2.2.2.1 HI.out.2.2.2.2.1 HR.out HB.out)
    clear HR HB k1 k2 c1 f1 HCx HNx
    generalize w1.setCell ⟨Bx, 0, none⟩ (.slice A1 x.f0.length c1_) = W2 at HW ⊢
    have c1 : W2.cell? ⟨w.heap.size, 0, none⟩ = some v := blk_cell HW.out.box 0
    have f1 := blk_frozen HW.out.box 0
    have c2 : W2.cell? ⟨Bx, 0, none⟩ = some (.slice A1 x.f0.length c1_) := blk_cell HW.out.var 0
    have c3 : W2.cell? ⟨Bx, 1, none⟩ = some (.bool x.f1) := blk_cell HW.out.var 1
    refine region_in (by rintro ⟨a, w, h, _⟩; cases h) (by simp) ?_
    go_wp2_with (first | ((with_reducible refine gate_builtin (b := .append) (xs := #[.tmp 12, .tmp 14]) rfl ?_); at_builtin; (refine Kd.S_append k32 (w0 := w) w.heap.size rfl (.tmp 12) (.tmp 14) 28 32 (.agg #[(.slice none 0 0), (.bool false)]) 32 rfl Try.underlying28 info32 rfl (by decide) (by omega) v xs x [.slice A1 x.f0.length c1_, .bool x.f1] (fun k => k ≠ w.heap.size + 1 ∧ ¬ False) (fun k => W.heap.size ≤ k) rfl rfl ?aP HW.out.fresh ?aF HW.out.row HW.out.bel HW.out.bel.size ?aL ?_); (case aP => exact HW.out.elem); (case aF => intro k hk; have := HW.out.big; exact ⟨by omega, not_false⟩); (case aL => have := HI.out.2.2.2.2.2.1; have := HN.out; omega); intro v1 w3 ho hb hg hat; have HO := Aside0.mk (And.intro ho (And.intro hb hg)); have k3 : w3.cell? ⟨w.heap.size, 0, none⟩ = some v := blk_cell (HW.out.later hg) 0; have k4 := blk_frozen (HW.out.later hg) 0; (obtain ⟨A3, c3_, e3⟩ := Kd.R_slice (Kd.S_R ho)); subst e3; clear ho hb hg hat c1 c2 c3 f1))
    have hlen : (xs ++ [x]).length = xs.length + 1 := by simp
    exact ⟨trivial, HW.out.keeps HO.out.2.2 HT.out.1 HT.out.2.1 HT.out.2.2 _, HO.out.2.1.setCell (p := ⟨w.heap.size, 0, none⟩) (Nat.le_refl _) _, _, blk_put (HW.out.later HO.out.2.2) 0 _ rfl, by have h_ := Kd.S_set HO.out.1 (HW.out.later HO.out.2.2) (by decide) 0 (.slice A3 (xs.length + 1) c3_); rw [hlen] at h_; exact Kd.S_mono h_ (fun _ h => h)⟩
  case hdone =>
    intro W hi hk
    obtain ⟨D, hD⟩ : ∃ D, D = ((w.alloc (Obj.cells #[Value.slice none 0 0] 28)).alloc (Obj.cells #[.slice A0 l0.length c0] 23)).heap.size := ⟨_, rfl⟩
    rw [← hD] at hk ⊢
    obtain ⟨h1, v, h2, h3⟩ := hi
    have c1 : W.cell? ⟨w.heap.size, 0, none⟩ = some v := blk_cell h2 0
    have HD := Aside0.mk hD
    have HI := Aside0.mk (And.intro h1 h3)
    have HK := Aside0.mk hk
    clear hD h1 h2 h3 hk
    gi_wp2
    refine ⟨by simp, .inl ⟨_, _, rfl, run_takeDeferred HK.out, ?_⟩⟩
    refine ⟨_, results_tmp rfl _ _ _, v, rfl, ?_, ?_⟩
    · refine Kd.S_mono (Kd.S_grown (Kd.S_bound HI.out.2) (grownBy_putObj' _ _ _) ?_) (fun _ _ => trivial)
      rintro k ⟨_, _, _, q, _, cells, hc⟩ e
      cases e
      rw [HK.out] at hc
      cases hc
    · exact HI.out.1.grown (grownBy_putObj' _ _ _) HI.out.1.size (fun k hk => by cases hk; have := HD.out; simp at this; omega)
/-- What Split comes to. -/
def lines_Split.f (l0 : List Int) : Option (List S32) := if l0.length < 1099511627776 then some (splitP l0) else none
theorem lines_Split.calls (A0 : Option Addr) (c0 : Nat) (l0 : List Int) (r : List S32) (w : World) (hr0 : Kd.C (Kd.int .i32) w A0 l0.length l0) (hc0 : l0.length ≤ c0) (h : lines_Split.f l0 = some r) :
    Calls Try.prog 11 #[.slice A0 l0.length c0] w fun e w' => ∃ v0_ : Value, e = .returned (v0_) ∧ Kd.S k32 32 w' w.heap.size (fun _ => True) v0_ r ∧ Below w.heap.size w w' := by
  unfold lines_Split.f at h
  split at h
  · cases h
    exact split_calls A0 c0 l0 w hr0 hc0 (by assumption)
  · cases h
end Go.Proofs.Ytgfanljjldcdfaa.PAll
