/- subst's next: a step of a reader. -/
import Derived.Test.YtfgccmgfkfhfcaaPAllx0
import Derived.StillTailTactics
import Derived.WalkSpells
import Derived.WalkLawsBesides
import Derived.Handy
namespace Go.Proofs.Ytfgccmgfkfhfcaa.PAll
open Go.RowKit Go.Proofs.YtfgccmgfkfhfcaaW.PrintWords Go.Proofs.YtfgccmgfkfhfcaaW.PrintLast Go.Proofs.YtfgccmgfkfhfcaaW.PrintMore
set_option linter.unusedVariables false
set_option linter.unusedSimpArgs false
theorem int_cell {k0 : IntKind} {w : World} {ad : Addr} {l0 : List Int} (h : Kd.C (Kd.int k0) w (some ad) l0.length l0) {k : Nat} (hk : k < l0.length) : w.cell? (ad.add k) = some (.int k0 (l0.getD k 0)) := by
  obtain ⟨ad', c, e, hl, hK, hc⟩ := Kd.C_get h 0 (k : Int) (by omega) (by omega)
  cases e
  have hK' : c = [.int k0 (l0.getD ((k : Int)).toNat 0)] := hK
  subst hK'
  have := hc 0 _ rfl
  simpa [Kd.int, Kd.scalar] using this
theorem grown_set (W : World) (g i : Nat) (v : Value) : W.grownBy (W.setCell ⟨g, i, none⟩ v) (some g) := by
  have h := (Below.refl 0 W).setCell (p := ⟨g, i, none⟩) (Nat.zero_le _) v
  exact ⟨h.os, h.tape, h.output, h.size, fun k hk hne => Below.heap_setCell W _ v k (fun e => hne (by rw [e]))⟩
section
variable {P : Program}

theorem run_load_whole (W : World) (t : TypeId) (ad : Addr) {fs : Array Field} (ht : P.underlying t = some (.struct fs)) (cs : List Value) (hi : (P.info? t).map (·.size) = some cs.length)
    (hc : ∀ j v, cs[j]? = some v → W.cell? (ad.add j) = some v) : (loadVar t ad).run P W = .ok (.agg cs.toArray) W := by
  have hl := run_loadCells_list (P := P) W ad cs hc
  cases hq : P.info? t with
  | none => simp [hq] at hi
  | some i =>
    have hs : i.size = cs.length := by simpa [hq] using hi
    have hagg : (isAgg t).run P W = .ok true W := by
      unfold isAgg
      rw [Sem.run_bind, run_underlying ht W]
      rfl
    simp only [loadVar, Sem.run_bind, hagg, Result.andThen_ok, if_true, sizeOf, typeInfo, hq, hs, hl, run_program, Sem.run_pure]


/-- Four results, the first of which is a struct in a block of its own. -/
theorem results_cell4 {fn : Func} {p t u v : Tmp} {ty : TypeId} (h : fn.results = #[.cell p ty, .tmp t, .tmp u, .tmp v]) (tmps : Array Value) (w : World) (g : Nat) (cs : List Value) {fs : Array Field} (hp : tmps.getD p undef = .pointer (some ⟨g, 0, none⟩))
    (ht : P.underlying ty = some (.struct fs)) (hi : (P.info? ty).map (·.size) = some cs.length) (hc : ∀ j v, cs[j]? = some v → w.cell? (Addr.add ⟨g, 0, none⟩ j) = some v) :
    (results fn tmps).run P w = .ok (.tuple #[.agg cs.toArray, tmps.getD t undef, tmps.getD u undef, tmps.getD v undef]) w := by
  have hp' : tmps[p]?.getD undef = .pointer (some ⟨g, 0, none⟩) := by simpa using hp
  have hl := run_load_whole (P := P) w ty ⟨g, 0, none⟩ ht cs hi hc
  simp [results, h, hp', asAddr, hl]
end
theorem box_cells {W : World} {g : Nat} {cs : List Value} {t : TypeId} (h : W.heap[g]? = some (.cells cs.toArray t (0, 0))) : ∀ j v, cs[j]? = some v → W.cell? (Addr.add ⟨g, 0, none⟩ j) = some v := by
  intro j v hv
  have e : Addr.add ⟨g, 0, none⟩ j = ⟨g, j, none⟩ := by
    unfold Addr.add
    by_cases hj : j = 0
    · subst hj; rfl
    · simp [hj]
  rw [e]
  simp [World.cell?, h, hv]
theorem size64 : (Try.prog.info? 64).map (·.size) = some 3 := by kernel_rfl
theorem World.grownBy.of_drewN (w : World) (n g : Nat) : w.grownBy (w.drewN n) (some g) := ⟨rfl, rfl, rfl, Nat.le_refl _, fun _ _ _ => rfl⟩
theorem World.grownBy.of_drew (w : World) (g : Nat) : w.grownBy w.drew (some g) := ⟨rfl, rfl, rfl, Nat.le_refl _, fun _ _ _ => rfl⟩
/-- Where a walk through next stands: the reader's block g, the step's block gs. -/
structure NS (w : World) (g gs : Nat) (A : Option Addr) (n c0 : Nat) (k e sc : Int) (sb : Bool) (sa : Int) (W : World) : Prop where
  gr : w.grownBy W (some g)
  rb : W.heap[g]? = some (.cells #[.slice A n c0, .int .i64 k, .int .i32 e] 56 (0, 0))
  st : W.heap[gs]? = some (.cells #[.int .i32 sc, .bool sb, .int .i64 sa] 64 (0, 0))
  ne : g ≠ gs
  sz : w.heap.size ≤ gs
section
variable {w W : World} {g gs : Nat} {A : Option Addr} {n c0 : Nat} {k e sc sa : Int} {sb : Bool}
theorem NS.start (hb : w.heap[g]? = some (.cells #[.slice A n c0, .int .i64 k, .int .i32 e] 56 (0, 0))) : NS w g w.heap.size A n c0 k e 0 false 0 (w.alloc (Obj.cells #[Value.int .i32 0, Value.bool false, Value.int .i64 0] 64)) :=
  ⟨World.grownBy_alloc w _ (some g), blk_alloc hb _, blk_new w _, fun h => by have := blk_lt hb; omega, Nat.le_refl _⟩
theorem NS.drewN (h : NS w g gs A n c0 k e sc sb sa W) (m : Nat) : NS w g gs A n c0 k e sc sb sa (W.drewN m) := ⟨h.gr.trans (World.grownBy.of_drewN W m g), h.rb, h.st, h.ne, h.sz⟩
theorem NS.drew (h : NS w g gs A n c0 k e sc sb sa W) : NS w g gs A n c0 k e sc sb sa W.drew := ⟨h.gr.trans (World.grownBy.of_drew W g), h.rb, h.st, h.ne, h.sz⟩
theorem NS.setS (h : NS w g gs A n c0 k e sc sb sa W) (v : Value) (j : Nat) : w.grownBy (W.setCell ⟨gs, j, none⟩ v) (some g) ∧ (W.setCell ⟨gs, j, none⟩ v).heap[g]? = some (.cells #[.slice A n c0, .int .i64 k, .int .i32 e] 56 (0, 0)) :=
  ⟨h.gr.andThen (grown_set W gs j v) (fun i hi => by cases hi; exact .inl h.sz), blk_far h.rb (p := ⟨gs, j, none⟩) h.ne v⟩
theorem NS.s0 (h : NS w g gs A n c0 k e sc sb sa W) (x : Int) : NS w g gs A n c0 k e x sb sa (W.setCell ⟨gs, 0, none⟩ (.int .i32 x)) := ⟨(h.setS _ 0).1, (h.setS _ 0).2, blk_put h.st 0 _ rfl, h.ne, h.sz⟩
theorem NS.s1 (h : NS w g gs A n c0 k e sc sb sa W) (x : Bool) : NS w g gs A n c0 k e sc x sa (W.setCell ⟨gs, 1, none⟩ (.bool x)) := ⟨(h.setS _ 1).1, (h.setS _ 1).2, blk_put h.st 1 _ rfl, h.ne, h.sz⟩
theorem NS.s2 (h : NS w g gs A n c0 k e sc sb sa W) (x : Int) : NS w g gs A n c0 k e sc sb x (W.setCell ⟨gs, 2, none⟩ (.int .i64 x)) := ⟨(h.setS _ 2).1, (h.setS _ 2).2, blk_put h.st 2 _ rfl, h.ne, h.sz⟩
theorem NS.g1 (h : NS w g gs A n c0 k e sc sb sa W) (x : Int) : NS w g gs A n c0 x e sc sb sa (W.setCell ⟨g, 1, none⟩ (.int .i64 x)) := ⟨h.gr.trans (grown_set W g 1 _), blk_put h.rb 1 _ rfl, blk_far h.st (p := ⟨g, 1, none⟩) (Ne.symm h.ne) _, h.ne, h.sz⟩
/-- A cell that came in, in another block than the reader's. -/
theorem NS.old (h : NS w g gs A n c0 k e sc sb sa W) {ad : Addr} {j : Nat} {v : Value} (hc : w.cell? (ad.add j) = some v) (hgl : ad.block ≠ g) : W.cell? (ad.add j) = some v :=
  h.gr.cell hc (by intro h; injection h with h; exact hgl ((by unfold Addr.add; split <;> rfl : (ad.add j).block = ad.block).symm.trans h))
theorem NS.oldA (h : NS w g gs A n c0 k e sc sb sa W) {p : Addr} {v : Value} (hc : w.cell? p = some v) (hgl : p.block ≠ g) : W.cell? p = some v :=
  h.gr.cell hc (by intro h; injection h with h; exact hgl h)
end
set_option maxRecDepth 100000 in
set_option maxHeartbeats 1000000 in
theorem next_end (g : Nat) (A : Option Addr) (n c0 k : Nat) (e : Int) (w : World) (hb : w.heap[g]? = some (.cells #[.slice A n c0, .int .i64 k, .int .i32 e] 56 (0, 0))) (hk : n ≤ k) :
    Calls Try.prog 22 #[.pointer (some ⟨g, 0, none⟩)] w fun r w' => r = .returned (.tuple #[.agg #[.int .i32 0, .bool false, .int .i64 0], .bool false, .int .u16 30, .int .i64 n]) ∧ w.grownBy w' (some g) ∧ w'.heap[g]? = some (.cells #[.slice A n c0, .int .i64 (k), .int .i32 e] 56 (0, 0)) := by
  have HB := Aside0.mk hb
  have b0 : (n : Int) ≤ k := by omega
  clear hb hk
  go_enter Try.func22, Try.ntmps22
  go_wp2
  have HS := Aside0.mk (NS.start HB.out)
  generalize w.alloc (Obj.cells #[Value.int .i32 0, Value.bool false, Value.int .i64 0] 64) = w0 at HS ⊢
  obtain ⟨gs, hgs⟩ : ∃ gs, gs = w.heap.size := ⟨_, rfl⟩
  rw [← hgs] at HS ⊢
  clear hgs HB
  have hne : g ≠ gs := HS.out.ne
  have q0 : w0.cell? ⟨g, 0, none⟩ = some (.slice A n c0) := blk_cell HS.out.rb 0
  have q1 : w0.cell? ⟨g, 1, none⟩ = some (.int .i64 (k)) := blk_cell HS.out.rb 1
  have q2 : w0.cell? ⟨g, 2, none⟩ = some (.int .i32 e) := blk_cell HS.out.rb 2
  have r0 : w0.cell? ⟨gs, 0, none⟩ = some (.int .i32 0) := blk_cell HS.out.st 0
  have r1 : w0.cell? ⟨gs, 1, none⟩ = some (.bool false) := blk_cell HS.out.st 1
  have r2 : w0.cell? ⟨gs, 2, none⟩ = some (.int .i64 0) := blk_cell HS.out.st 2
  have f0 := blk_frozen HS.out.st 0
  have f1 := blk_frozen HS.out.st 1
  have f2 := blk_frozen HS.out.st 2
  have fg := blk_frozen HS.out.rb 1
  go_quiet (fail)
  go_wp2
  clear q0 q1 q2 r0 r1 r2 f0 f1 f2 fg
  have HS_ := Aside0.mk (HS.out.drewN nq)
  clear HS
  have HS := HS_
  clear HS_
  generalize w0.drewN nq = w1 at HS ⊢
  have q0 : w1.cell? ⟨g, 0, none⟩ = some (.slice A n c0) := blk_cell HS.out.rb 0
  have q1 : w1.cell? ⟨g, 1, none⟩ = some (.int .i64 (k)) := blk_cell HS.out.rb 1
  have q2 : w1.cell? ⟨g, 2, none⟩ = some (.int .i32 e) := blk_cell HS.out.rb 2
  have r0 : w1.cell? ⟨gs, 0, none⟩ = some (.int .i32 0) := blk_cell HS.out.st 0
  have r1 : w1.cell? ⟨gs, 1, none⟩ = some (.bool false) := blk_cell HS.out.st 1
  have r2 : w1.cell? ⟨gs, 2, none⟩ = some (.int .i64 0) := blk_cell HS.out.st 2
  have f0 := blk_frozen HS.out.st 0
  have f1 := blk_frozen HS.out.st 1
  have f2 := blk_frozen HS.out.st 2
  have fg := blk_frozen HS.out.rb 1
  refine start_ (n := 10) (S := fun w' => w'.cell? ⟨gs, 0, none⟩ = some (.int .i32 0) ∧ w'.cell? ⟨gs, 1, none⟩ = some (.bool false) ∧ w'.cell? ⟨gs, 2, none⟩ = some (.int .i64 0) ∧ w'.cell? ⟨g, 0, none⟩ = some (.slice A n c0)) (ds := []) #[false, false, false, false, false, false, false, false, false, false] (by kernel_rfl) rfl rfl ⟨r0, r1, r2, q0⟩ (fun hHeld => ?_)
  clear q0 q1 q2 r0 r1 r2 f0 f1 f2 fg
  have HS_ := Aside0.mk HS.out.drew
  clear HS
  have HS := HS_
  clear HS_
  generalize w1.drew = w2 at HS hHeld ⊢
  refine pure_ (i := 1) (N := some 17) (v := ?_) (a' := ?_) #[false, true, false, false, false, false, false, false, false, false] rfl rfl (by kernel_rfl) (fun _ _ _ h => h) (Or.inl ⟨by rfl, ?_⟩) ?_ ?_
  rotate_left
  · intro w'
    go_simp
    with_reducible rfl
  rotate_left
  · simp only [Act.put, List.setIfInBounds_toArray, List.set_cons_zero, List.set_cons_succ, i64_w, i32_w]
    rfl
  refine pure_ (i := 2) (N := some 18) (v := ?_) (a' := ?_) #[false, true, true, false, false, false, false, false, false, false] rfl rfl (by kernel_rfl) (fun _ _ _ h => h) (Or.inl ⟨by rfl, ?_⟩) ?_ ?_
  rotate_left
  · intro w'
    go_simp
    with_reducible rfl
  rotate_left
  · simp only [Act.put, List.setIfInBounds_toArray, List.set_cons_zero, List.set_cons_succ, i64_w, i32_w]
    rfl
  refine pure_ (i := 3) (N := some 19) (v := ?_) (a' := ?_) #[false, true, true, true, false, false, false, false, false, false] rfl rfl (by kernel_rfl) (fun _ _ _ h => h) (Or.inl ⟨by rfl, ?_⟩) ?_ ?_
  rotate_left
  · intro w'
    go_simp
    with_reducible rfl
  rotate_left
  · simp only [Act.put, List.setIfInBounds_toArray, List.set_cons_zero, List.set_cons_succ, i64_w, i32_w]
    rfl
  refine take_ (i := 0) (N := some 16) (v := ?_) (a' := ?_) #[true, true, true, true, false, false, false, false, false, false] rfl rfl (by kernel_rfl) (fun _ _ _ h => h) (Or.inl ⟨by rfl, ?_⟩) hHeld ?_ ?_
  rotate_left
  · rintro w' ⟨s0, s1, s2, s3⟩
    go_simp
    with_reducible rfl
  rotate_left
  · simp only [Act.put, List.setIfInBounds_toArray, List.set_cons_zero, List.set_cons_succ, i64_w, i32_w]
    rfl
  refine take_ (i := 4) (N := some 20) (v := ?_) (a' := ?_) #[true, true, true, true, true, false, false, false, false, false] rfl rfl (by kernel_rfl) (fun _ _ _ h => h) (Or.inl ⟨by rfl, ?_⟩) hHeld ?_ ?_
  rotate_left
  · rintro w' ⟨s0, s1, s2, s3⟩
    go_simp
    with_reducible rfl
  rotate_left
  · simp only [Act.put, List.setIfInBounds_toArray, List.set_cons_zero, List.set_cons_succ, i64_w, i32_w]
    rfl
  refine pure_ (i := 5) (N := some 21) (v := ?_) (a' := ?_) #[true, true, true, true, true, true, false, false, false, false] rfl rfl (by kernel_rfl) (fun _ _ _ h => h) (Or.inl ⟨by rfl, ?_⟩) ?_ ?_
  rotate_left
  · intro w'
    go_simp
    with_reducible rfl
  rotate_left
  · simp only [Act.put, List.setIfInBounds_toArray, List.set_cons_zero, List.set_cons_succ, i64_w, i32_w]
    rfl
  have q0 : w2.cell? ⟨g, 0, none⟩ = some (.slice A n c0) := blk_cell HS.out.rb 0
  have q1 : w2.cell? ⟨g, 1, none⟩ = some (.int .i64 (k)) := blk_cell HS.out.rb 1
  have q2 : w2.cell? ⟨g, 2, none⟩ = some (.int .i32 e) := blk_cell HS.out.rb 2
  have r0 : w2.cell? ⟨gs, 0, none⟩ = some (.int .i32 0) := blk_cell HS.out.st 0
  have r1 : w2.cell? ⟨gs, 1, none⟩ = some (.bool false) := blk_cell HS.out.st 1
  have r2 : w2.cell? ⟨gs, 2, none⟩ = some (.int .i64 0) := blk_cell HS.out.st 2
  have f0 := blk_frozen HS.out.st 0
  have f1 := blk_frozen HS.out.st 1
  have f2 := blk_frozen HS.out.st 2
  have fg := blk_frozen HS.out.rb 1
  have HS2 := Aside0.mk (((HS.out.s0 0).s1 false).s2 0)
  refine one_ (i := 6) (N := none) #[true, true, true, true, true, true, true, false, false, false] rfl rfl (by kernel_rfl) (by decide) (fun K hK => ?_)
  refine skip_ (w1 := ?_) (by rfl) rfl ?_ ?_
  rotate_left
  · go_simp
    rfl
  refine hK.out _ _ ⟨blk_cell HS2.out.st 0, blk_cell HS2.out.st 1, blk_cell HS2.out.st 2, blk_cell HS2.out.rb 0⟩ (fun hHeld => ?_)
  clear hK K
  refine pure_ (i := 7) (N := some 3) (v := ?_) (a' := ?_) #[true, true, true, true, true, true, true, true, false, false] rfl rfl (by kernel_rfl) (fun _ _ _ h => h) (Or.inl ⟨by rfl, ?_⟩) ?_ ?_
  rotate_left
  · intro w'
    go_simp
    with_reducible rfl
  rotate_left
  · simp only [Act.put, List.setIfInBounds_toArray, List.set_cons_zero, List.set_cons_succ, i64_w, i32_w]
    rfl
  refine pure_ (i := 8) (N := some 4) (v := ?_) (a' := ?_) #[true, true, true, true, true, true, true, true, true, false] rfl rfl (by kernel_rfl) (fun _ _ _ h => h) (Or.inl ⟨by rfl, ?_⟩) ?_ ?_
  rotate_left
  · intro w'
    go_simp
    with_reducible rfl
  rotate_left
  · simp only [Act.put, List.setIfInBounds_toArray, List.set_cons_zero, List.set_cons_succ, i64_w, i32_w]
    rfl
  refine pure_ (i := 9) (N := some 5) (v := ?_) (a' := ?_) #[true, true, true, true, true, true, true, true, true, true] rfl rfl (by kernel_rfl) (fun _ _ _ h => h) (Or.inl ⟨by rfl, ?_⟩) ?_ ?_
  rotate_left
  · intro w'
    go_simp
    with_reducible rfl
  rotate_left
  · simp only [Act.put, List.setIfInBounds_toArray, List.set_cons_zero, List.set_cons_succ, i64_w, i32_w]
    rfl
  refine done_ (by kernel_rfl) ?_
  clear q0 q1 q2 r0 r1 r2 f0 f1 f2 fg
  clear HS hHeld
  have HS := HS2
  clear HS2
  generalize ((w2.setCell ⟨gs, 0, none⟩ (.int .i32 0)).setCell ⟨gs, 1, none⟩ (.bool false)).setCell ⟨gs, 2, none⟩ (.int .i64 0) = w3 at HS ⊢
  have q0 : w3.cell? ⟨g, 0, none⟩ = some (.slice A n c0) := blk_cell HS.out.rb 0
  have q1 : w3.cell? ⟨g, 1, none⟩ = some (.int .i64 (k)) := blk_cell HS.out.rb 1
  have q2 : w3.cell? ⟨g, 2, none⟩ = some (.int .i32 e) := blk_cell HS.out.rb 2
  have r0 : w3.cell? ⟨gs, 0, none⟩ = some (.int .i32 0) := blk_cell HS.out.st 0
  have r1 : w3.cell? ⟨gs, 1, none⟩ = some (.bool false) := blk_cell HS.out.st 1
  have r2 : w3.cell? ⟨gs, 2, none⟩ = some (.int .i64 0) := blk_cell HS.out.st 2
  have f0 := blk_frozen HS.out.st 0
  have f1 := blk_frozen HS.out.st 1
  have f2 := blk_frozen HS.out.st 2
  have fg := blk_frozen HS.out.rb 1
  go_wp2
  clear q0 q1 q2 r0 r1 r2 f0 f1 f2 fg
  refine bodyPost_ret (results_cell4 rfl _ _ gs [.int .i32 0, .bool false, .int .i64 0] rfl Try.underlying64 size64 (box_cells HS.out.st)) rfl ?_
  exact ⟨rfl, HS.out.gr, HS.out.rb⟩
set_option maxRecDepth 100000 in
set_option maxHeartbeats 1000000 in
theorem next_sign (g : Nat) (ad : Addr) (n c0 k : Nat) (e c : Int) (w : World) (hb : w.heap[g]? = some (.cells #[.slice (some ad) n c0, .int .i64 k, .int .i32 e] 56 (0, 0))) (hk : k < n) (hc : w.cell? (ad.add k) = some (.int .i32 c)) (hgl : ad.block ≠ g) (hwk : wrap64 ((k : Int) + 1) = (k : Int) + 1) (hce : c = e) :
    Calls Try.prog 22 #[.pointer (some ⟨g, 0, none⟩)] w fun r w' => r = .returned (.tuple #[.agg #[.int .i32 c, .bool false, .int .i64 k], .bool false, .int .u16 0, .int .i64 0]) ∧ w.grownBy w' (some g) ∧ w'.heap[g]? = some (.cells #[.slice (some ad) n c0, .int .i64 ((k : Int) + 1), .int .i32 e] 56 (0, 0)) := by
  have HB := Aside0.mk hb
  have b0 : (k : Int) < n := by omega
  have b1 : (0 : Int) ≤ k := by omega
  clear hb hk
  have HCE := Aside0.mk hce
  clear hce
  go_enter Try.func22, Try.ntmps22
  go_wp2
  have HS := Aside0.mk (NS.start HB.out)
  generalize w.alloc (Obj.cells #[Value.int .i32 0, Value.bool false, Value.int .i64 0] 64) = w0 at HS ⊢
  obtain ⟨gs, hgs⟩ : ∃ gs, gs = w.heap.size := ⟨_, rfl⟩
  rw [← hgs] at HS ⊢
  clear hgs HB
  have hne : g ≠ gs := HS.out.ne
  have q0 : w0.cell? ⟨g, 0, none⟩ = some (.slice (some ad) n c0) := blk_cell HS.out.rb 0
  have q1 : w0.cell? ⟨g, 1, none⟩ = some (.int .i64 (k)) := blk_cell HS.out.rb 1
  have q2 : w0.cell? ⟨g, 2, none⟩ = some (.int .i32 e) := blk_cell HS.out.rb 2
  have r0 : w0.cell? ⟨gs, 0, none⟩ = some (.int .i32 0) := blk_cell HS.out.st 0
  have r1 : w0.cell? ⟨gs, 1, none⟩ = some (.bool false) := blk_cell HS.out.st 1
  have r2 : w0.cell? ⟨gs, 2, none⟩ = some (.int .i64 0) := blk_cell HS.out.st 2
  have f0 := blk_frozen HS.out.st 0
  have f1 := blk_frozen HS.out.st 1
  have f2 := blk_frozen HS.out.st 2
  have fg := blk_frozen HS.out.rb 1
  go_quiet (fail)
  go_wp2
  clear q0 q1 q2 r0 r1 r2 f0 f1 f2 fg
  have HS_ := Aside0.mk (HS.out.drewN nq)
  clear HS
  have HS := HS_
  clear HS_
  generalize w0.drewN nq = w1 at HS ⊢
  have q0 : w1.cell? ⟨g, 0, none⟩ = some (.slice (some ad) n c0) := blk_cell HS.out.rb 0
  have q1 : w1.cell? ⟨g, 1, none⟩ = some (.int .i64 (k)) := blk_cell HS.out.rb 1
  have q2 : w1.cell? ⟨g, 2, none⟩ = some (.int .i32 e) := blk_cell HS.out.rb 2
  have r0 : w1.cell? ⟨gs, 0, none⟩ = some (.int .i32 0) := blk_cell HS.out.st 0
  have r1 : w1.cell? ⟨gs, 1, none⟩ = some (.bool false) := blk_cell HS.out.st 1
  have r2 : w1.cell? ⟨gs, 2, none⟩ = some (.int .i64 0) := blk_cell HS.out.st 2
  have f0 := blk_frozen HS.out.st 0
  have f1 := blk_frozen HS.out.st 1
  have f2 := blk_frozen HS.out.st 2
  have fg := blk_frozen HS.out.rb 1
  have hc2 : w1.cell? (ad.add k) = some (.int .i32 c) := HS.out.old hc hgl
  go_still_tail 15, (by kernel_rfl)
  go_wp2
  clear hc2
  clear q0 q1 q2 r0 r1 r2 f0 f1 f2 fg
  have HS_ := Aside0.mk (((((HS.out.s0 c).s1 false).s2 k).g1 ((k : Int) + 1)).drew)
  clear HS
  have HS := HS_
  clear HS_
  generalize ((((w1.setCell ⟨gs, 0, none⟩ (.int .i32 c)).setCell ⟨gs, 1, none⟩ (.bool false)).setCell ⟨gs, 2, none⟩ (.int .i64 k)).setCell ⟨g, 1, none⟩ (.int .i64 ((k : Int) + 1))).drew = w2 at HS ⊢
  have q0 : w2.cell? ⟨g, 0, none⟩ = some (.slice (some ad) n c0) := blk_cell HS.out.rb 0
  have q1 : w2.cell? ⟨g, 1, none⟩ = some (.int .i64 ((k : Int) + 1)) := blk_cell HS.out.rb 1
  have q2 : w2.cell? ⟨g, 2, none⟩ = some (.int .i32 e) := blk_cell HS.out.rb 2
  have r0 : w2.cell? ⟨gs, 0, none⟩ = some (.int .i32 c) := blk_cell HS.out.st 0
  have r1 : w2.cell? ⟨gs, 1, none⟩ = some (.bool false) := blk_cell HS.out.st 1
  have r2 : w2.cell? ⟨gs, 2, none⟩ = some (.int .i64 k) := blk_cell HS.out.st 2
  have f0 := blk_frozen HS.out.st 0
  have f1 := blk_frozen HS.out.st 1
  have f2 := blk_frozen HS.out.st 2
  have fg := blk_frozen HS.out.rb 1
  have hceb : (c == e) = true := beq_iff_eq.mpr HCE.out
  go_quiet (fail)
  go_wp2
  clear q0 q1 q2 r0 r1 r2 f0 f1 f2 fg
  have HS_ := Aside0.mk (HS.out.drewN nq)
  clear HS
  have HS := HS_
  clear HS_
  generalize w2.drewN nq = w3 at HS ⊢
  have q0 : w3.cell? ⟨g, 0, none⟩ = some (.slice (some ad) n c0) := blk_cell HS.out.rb 0
  have q1 : w3.cell? ⟨g, 1, none⟩ = some (.int .i64 ((k : Int) + 1)) := blk_cell HS.out.rb 1
  have q2 : w3.cell? ⟨g, 2, none⟩ = some (.int .i32 e) := blk_cell HS.out.rb 2
  have r0 : w3.cell? ⟨gs, 0, none⟩ = some (.int .i32 c) := blk_cell HS.out.st 0
  have r1 : w3.cell? ⟨gs, 1, none⟩ = some (.bool false) := blk_cell HS.out.st 1
  have r2 : w3.cell? ⟨gs, 2, none⟩ = some (.int .i64 k) := blk_cell HS.out.st 2
  have f0 := blk_frozen HS.out.st 0
  have f1 := blk_frozen HS.out.st 1
  have f2 := blk_frozen HS.out.st 2
  have fg := blk_frozen HS.out.rb 1
  go_wp2
  clear q0 q1 q2 r0 r1 r2 f0 f1 f2 fg
  have HS_ := Aside0.mk (((HS.out.s0 c).s1 false).s2 k)
  clear HS
  have HS := HS_
  clear HS_
  generalize ((w3.setCell ⟨gs, 0, none⟩ (.int .i32 c)).setCell ⟨gs, 1, none⟩ (.bool false)).setCell ⟨gs, 2, none⟩ (.int .i64 k) = w4 at HS ⊢
  refine bodyPost_ret (results_cell4 rfl _ _ gs [.int .i32 c, .bool false, .int .i64 k] rfl Try.underlying64 size64 (box_cells HS.out.st)) rfl ?_
  exact ⟨rfl, HS.out.gr, HS.out.rb⟩
set_option maxRecDepth 100000 in
set_option maxHeartbeats 1000000 in
theorem next_ended (g : Nat) (ad : Addr) (n c0 k : Nat) (e c : Int) (w : World) (hb : w.heap[g]? = some (.cells #[.slice (some ad) n c0, .int .i64 k, .int .i32 e] 56 (0, 0))) (hk : k < n) (hc : w.cell? (ad.add k) = some (.int .i32 c)) (hgl : ad.block ≠ g) (hwk : wrap64 ((k : Int) + 1) = (k : Int) + 1) (hne0 : c ≠ e) (hx : c = 10) :
    Calls Try.prog 22 #[.pointer (some ⟨g, 0, none⟩)] w fun r w' => r = .returned (.tuple #[.agg #[.int .i32 c, .bool false, .int .i64 k], .bool false, .int .u16 30, .int .i64 k]) ∧ w.grownBy w' (some g) ∧ w'.heap[g]? = some (.cells #[.slice (some ad) n c0, .int .i64 ((k : Int) + 1), .int .i32 e] 56 (0, 0)) := by
  have HB := Aside0.mk hb
  have b0 : (k : Int) < n := by omega
  have b1 : (0 : Int) ≤ k := by omega
  clear hb hk
  have HNE := Aside0.mk hne0
  clear hne0
  have HX := Aside0.mk hx
  clear hx
  go_enter Try.func22, Try.ntmps22
  go_wp2
  have HS := Aside0.mk (NS.start HB.out)
  generalize w.alloc (Obj.cells #[Value.int .i32 0, Value.bool false, Value.int .i64 0] 64) = w0 at HS ⊢
  obtain ⟨gs, hgs⟩ : ∃ gs, gs = w.heap.size := ⟨_, rfl⟩
  rw [← hgs] at HS ⊢
  clear hgs HB
  have hne : g ≠ gs := HS.out.ne
  have q0 : w0.cell? ⟨g, 0, none⟩ = some (.slice (some ad) n c0) := blk_cell HS.out.rb 0
  have q1 : w0.cell? ⟨g, 1, none⟩ = some (.int .i64 (k)) := blk_cell HS.out.rb 1
  have q2 : w0.cell? ⟨g, 2, none⟩ = some (.int .i32 e) := blk_cell HS.out.rb 2
  have r0 : w0.cell? ⟨gs, 0, none⟩ = some (.int .i32 0) := blk_cell HS.out.st 0
  have r1 : w0.cell? ⟨gs, 1, none⟩ = some (.bool false) := blk_cell HS.out.st 1
  have r2 : w0.cell? ⟨gs, 2, none⟩ = some (.int .i64 0) := blk_cell HS.out.st 2
  have f0 := blk_frozen HS.out.st 0
  have f1 := blk_frozen HS.out.st 1
  have f2 := blk_frozen HS.out.st 2
  have fg := blk_frozen HS.out.rb 1
  go_quiet (fail)
  go_wp2
  clear q0 q1 q2 r0 r1 r2 f0 f1 f2 fg
  have HS_ := Aside0.mk (HS.out.drewN nq)
  clear HS
  have HS := HS_
  clear HS_
  generalize w0.drewN nq = w1 at HS ⊢
  have q0 : w1.cell? ⟨g, 0, none⟩ = some (.slice (some ad) n c0) := blk_cell HS.out.rb 0
  have q1 : w1.cell? ⟨g, 1, none⟩ = some (.int .i64 (k)) := blk_cell HS.out.rb 1
  have q2 : w1.cell? ⟨g, 2, none⟩ = some (.int .i32 e) := blk_cell HS.out.rb 2
  have r0 : w1.cell? ⟨gs, 0, none⟩ = some (.int .i32 0) := blk_cell HS.out.st 0
  have r1 : w1.cell? ⟨gs, 1, none⟩ = some (.bool false) := blk_cell HS.out.st 1
  have r2 : w1.cell? ⟨gs, 2, none⟩ = some (.int .i64 0) := blk_cell HS.out.st 2
  have f0 := blk_frozen HS.out.st 0
  have f1 := blk_frozen HS.out.st 1
  have f2 := blk_frozen HS.out.st 2
  have fg := blk_frozen HS.out.rb 1
  have hc2 : w1.cell? (ad.add k) = some (.int .i32 c) := HS.out.old hc hgl
  go_still_tail 15, (by kernel_rfl)
  go_wp2
  clear hc2
  clear q0 q1 q2 r0 r1 r2 f0 f1 f2 fg
  have HS_ := Aside0.mk (((((HS.out.s0 c).s1 false).s2 k).g1 ((k : Int) + 1)).drew)
  clear HS
  have HS := HS_
  clear HS_
  generalize ((((w1.setCell ⟨gs, 0, none⟩ (.int .i32 c)).setCell ⟨gs, 1, none⟩ (.bool false)).setCell ⟨gs, 2, none⟩ (.int .i64 k)).setCell ⟨g, 1, none⟩ (.int .i64 ((k : Int) + 1))).drew = w2 at HS ⊢
  have q0 : w2.cell? ⟨g, 0, none⟩ = some (.slice (some ad) n c0) := blk_cell HS.out.rb 0
  have q1 : w2.cell? ⟨g, 1, none⟩ = some (.int .i64 ((k : Int) + 1)) := blk_cell HS.out.rb 1
  have q2 : w2.cell? ⟨g, 2, none⟩ = some (.int .i32 e) := blk_cell HS.out.rb 2
  have r0 : w2.cell? ⟨gs, 0, none⟩ = some (.int .i32 c) := blk_cell HS.out.st 0
  have r1 : w2.cell? ⟨gs, 1, none⟩ = some (.bool false) := blk_cell HS.out.st 1
  have r2 : w2.cell? ⟨gs, 2, none⟩ = some (.int .i64 k) := blk_cell HS.out.st 2
  have f0 := blk_frozen HS.out.st 0
  have f1 := blk_frozen HS.out.st 1
  have f2 := blk_frozen HS.out.st 2
  have fg := blk_frozen HS.out.rb 1
  have hceb : (c == e) = false := beq_eq_false_iff_ne.mpr HNE.out
  have hxb : (c == 10) = true := beq_iff_eq.mpr HX.out
  go_quiet (fail)
  go_wp2
  clear q0 q1 q2 r0 r1 r2 f0 f1 f2 fg
  have HS_ := Aside0.mk (HS.out.drewN nq)
  clear HS
  have HS := HS_
  clear HS_
  generalize w2.drewN nq = w3 at HS ⊢
  have q0 : w3.cell? ⟨g, 0, none⟩ = some (.slice (some ad) n c0) := blk_cell HS.out.rb 0
  have q1 : w3.cell? ⟨g, 1, none⟩ = some (.int .i64 ((k : Int) + 1)) := blk_cell HS.out.rb 1
  have q2 : w3.cell? ⟨g, 2, none⟩ = some (.int .i32 e) := blk_cell HS.out.rb 2
  have r0 : w3.cell? ⟨gs, 0, none⟩ = some (.int .i32 c) := blk_cell HS.out.st 0
  have r1 : w3.cell? ⟨gs, 1, none⟩ = some (.bool false) := blk_cell HS.out.st 1
  have r2 : w3.cell? ⟨gs, 2, none⟩ = some (.int .i64 k) := blk_cell HS.out.st 2
  have f0 := blk_frozen HS.out.st 0
  have f1 := blk_frozen HS.out.st 1
  have f2 := blk_frozen HS.out.st 2
  have fg := blk_frozen HS.out.rb 1
  go_wp2
  clear q0 q1 q2 r0 r1 r2 f0 f1 f2 fg
  have HS_ := Aside0.mk (((HS.out.s0 c).s1 false).s2 k)
  clear HS
  have HS := HS_
  clear HS_
  generalize ((w3.setCell ⟨gs, 0, none⟩ (.int .i32 c)).setCell ⟨gs, 1, none⟩ (.bool false)).setCell ⟨gs, 2, none⟩ (.int .i64 k) = w4 at HS ⊢
  refine bodyPost_ret (results_cell4 rfl _ _ gs [.int .i32 c, .bool false, .int .i64 k] rfl Try.underlying64 size64 (box_cells HS.out.st)) rfl ?_
  exact ⟨rfl, HS.out.gr, HS.out.rb⟩
set_option maxRecDepth 100000 in
set_option maxHeartbeats 1000000 in
theorem next_plain (g : Nat) (ad : Addr) (n c0 k : Nat) (e c : Int) (w : World) (hb : w.heap[g]? = some (.cells #[.slice (some ad) n c0, .int .i64 k, .int .i32 e] 56 (0, 0))) (hk : k < n) (hc : w.cell? (ad.add k) = some (.int .i32 c)) (hgl : ad.block ≠ g) (hwk : wrap64 ((k : Int) + 1) = (k : Int) + 1) (hne0 : c ≠ e) (hx : c ≠ 10) (hy : c ≠ 92) :
    Calls Try.prog 22 #[.pointer (some ⟨g, 0, none⟩)] w fun r w' => r = .returned (.tuple #[.agg #[.int .i32 c, .bool false, .int .i64 k], .bool true, .int .u16 0, .int .i64 0]) ∧ w.grownBy w' (some g) ∧ w'.heap[g]? = some (.cells #[.slice (some ad) n c0, .int .i64 ((k : Int) + 1), .int .i32 e] 56 (0, 0)) := by
  have HB := Aside0.mk hb
  have b0 : (k : Int) < n := by omega
  have b1 : (0 : Int) ≤ k := by omega
  clear hb hk
  have HNE := Aside0.mk hne0
  clear hne0
  have HX := Aside0.mk (And.intro hx hy)
  clear hx hy
  go_enter Try.func22, Try.ntmps22
  go_wp2
  have HS := Aside0.mk (NS.start HB.out)
  generalize w.alloc (Obj.cells #[Value.int .i32 0, Value.bool false, Value.int .i64 0] 64) = w0 at HS ⊢
  obtain ⟨gs, hgs⟩ : ∃ gs, gs = w.heap.size := ⟨_, rfl⟩
  rw [← hgs] at HS ⊢
  clear hgs HB
  have hne : g ≠ gs := HS.out.ne
  have q0 : w0.cell? ⟨g, 0, none⟩ = some (.slice (some ad) n c0) := blk_cell HS.out.rb 0
  have q1 : w0.cell? ⟨g, 1, none⟩ = some (.int .i64 (k)) := blk_cell HS.out.rb 1
  have q2 : w0.cell? ⟨g, 2, none⟩ = some (.int .i32 e) := blk_cell HS.out.rb 2
  have r0 : w0.cell? ⟨gs, 0, none⟩ = some (.int .i32 0) := blk_cell HS.out.st 0
  have r1 : w0.cell? ⟨gs, 1, none⟩ = some (.bool false) := blk_cell HS.out.st 1
  have r2 : w0.cell? ⟨gs, 2, none⟩ = some (.int .i64 0) := blk_cell HS.out.st 2
  have f0 := blk_frozen HS.out.st 0
  have f1 := blk_frozen HS.out.st 1
  have f2 := blk_frozen HS.out.st 2
  have fg := blk_frozen HS.out.rb 1
  go_quiet (fail)
  go_wp2
  clear q0 q1 q2 r0 r1 r2 f0 f1 f2 fg
  have HS_ := Aside0.mk (HS.out.drewN nq)
  clear HS
  have HS := HS_
  clear HS_
  generalize w0.drewN nq = w1 at HS ⊢
  have q0 : w1.cell? ⟨g, 0, none⟩ = some (.slice (some ad) n c0) := blk_cell HS.out.rb 0
  have q1 : w1.cell? ⟨g, 1, none⟩ = some (.int .i64 (k)) := blk_cell HS.out.rb 1
  have q2 : w1.cell? ⟨g, 2, none⟩ = some (.int .i32 e) := blk_cell HS.out.rb 2
  have r0 : w1.cell? ⟨gs, 0, none⟩ = some (.int .i32 0) := blk_cell HS.out.st 0
  have r1 : w1.cell? ⟨gs, 1, none⟩ = some (.bool false) := blk_cell HS.out.st 1
  have r2 : w1.cell? ⟨gs, 2, none⟩ = some (.int .i64 0) := blk_cell HS.out.st 2
  have f0 := blk_frozen HS.out.st 0
  have f1 := blk_frozen HS.out.st 1
  have f2 := blk_frozen HS.out.st 2
  have fg := blk_frozen HS.out.rb 1
  have hc2 : w1.cell? (ad.add k) = some (.int .i32 c) := HS.out.old hc hgl
  go_still_tail 15, (by kernel_rfl)
  go_wp2
  clear hc2
  clear q0 q1 q2 r0 r1 r2 f0 f1 f2 fg
  have HS_ := Aside0.mk (((((HS.out.s0 c).s1 false).s2 k).g1 ((k : Int) + 1)).drew)
  clear HS
  have HS := HS_
  clear HS_
  generalize ((((w1.setCell ⟨gs, 0, none⟩ (.int .i32 c)).setCell ⟨gs, 1, none⟩ (.bool false)).setCell ⟨gs, 2, none⟩ (.int .i64 k)).setCell ⟨g, 1, none⟩ (.int .i64 ((k : Int) + 1))).drew = w2 at HS ⊢
  have q0 : w2.cell? ⟨g, 0, none⟩ = some (.slice (some ad) n c0) := blk_cell HS.out.rb 0
  have q1 : w2.cell? ⟨g, 1, none⟩ = some (.int .i64 ((k : Int) + 1)) := blk_cell HS.out.rb 1
  have q2 : w2.cell? ⟨g, 2, none⟩ = some (.int .i32 e) := blk_cell HS.out.rb 2
  have r0 : w2.cell? ⟨gs, 0, none⟩ = some (.int .i32 c) := blk_cell HS.out.st 0
  have r1 : w2.cell? ⟨gs, 1, none⟩ = some (.bool false) := blk_cell HS.out.st 1
  have r2 : w2.cell? ⟨gs, 2, none⟩ = some (.int .i64 k) := blk_cell HS.out.st 2
  have f0 := blk_frozen HS.out.st 0
  have f1 := blk_frozen HS.out.st 1
  have f2 := blk_frozen HS.out.st 2
  have fg := blk_frozen HS.out.rb 1
  have hceb : (c == e) = false := beq_eq_false_iff_ne.mpr HNE.out
  have hxb : (c == 10) = false := beq_eq_false_iff_ne.mpr HX.out.1
  have hyb : (c != 92) = true := bne_iff_ne.mpr HX.out.2
  go_quiet (fail)
  go_wp2
  clear q0 q1 q2 r0 r1 r2 f0 f1 f2 fg
  have HS_ := Aside0.mk (HS.out.drewN nq)
  clear HS
  have HS := HS_
  clear HS_
  generalize w2.drewN nq = w3 at HS ⊢
  have q0 : w3.cell? ⟨g, 0, none⟩ = some (.slice (some ad) n c0) := blk_cell HS.out.rb 0
  have q1 : w3.cell? ⟨g, 1, none⟩ = some (.int .i64 ((k : Int) + 1)) := blk_cell HS.out.rb 1
  have q2 : w3.cell? ⟨g, 2, none⟩ = some (.int .i32 e) := blk_cell HS.out.rb 2
  have r0 : w3.cell? ⟨gs, 0, none⟩ = some (.int .i32 c) := blk_cell HS.out.st 0
  have r1 : w3.cell? ⟨gs, 1, none⟩ = some (.bool false) := blk_cell HS.out.st 1
  have r2 : w3.cell? ⟨gs, 2, none⟩ = some (.int .i64 k) := blk_cell HS.out.st 2
  have f0 := blk_frozen HS.out.st 0
  have f1 := blk_frozen HS.out.st 1
  have f2 := blk_frozen HS.out.st 2
  have fg := blk_frozen HS.out.rb 1
  go_wp2
  clear q0 q1 q2 r0 r1 r2 f0 f1 f2 fg
  have HS_ := Aside0.mk (((HS.out.s0 c).s1 false).s2 k)
  clear HS
  have HS := HS_
  clear HS_
  generalize ((w3.setCell ⟨gs, 0, none⟩ (.int .i32 c)).setCell ⟨gs, 1, none⟩ (.bool false)).setCell ⟨gs, 2, none⟩ (.int .i64 k) = w4 at HS ⊢
  refine bodyPost_ret (results_cell4 rfl _ _ gs [.int .i32 c, .bool false, .int .i64 k] rfl Try.underlying64 size64 (box_cells HS.out.st)) rfl ?_
  exact ⟨rfl, HS.out.gr, HS.out.rb⟩
set_option maxRecDepth 100000 in
set_option maxHeartbeats 1000000 in
theorem next_last (g : Nat) (ad : Addr) (n c0 k : Nat) (e c : Int) (w : World) (hb : w.heap[g]? = some (.cells #[.slice (some ad) n c0, .int .i64 k, .int .i32 e] 56 (0, 0))) (hk : k < n) (hc : w.cell? (ad.add k) = some (.int .i32 c)) (hgl : ad.block ≠ g) (hwk : wrap64 ((k : Int) + 1) = (k : Int) + 1) (hne0 : c ≠ e) (hx : c = 92) (hk2 : n ≤ k + 1) :
    Calls Try.prog 22 #[.pointer (some ⟨g, 0, none⟩)] w fun r w' => r = .returned (.tuple #[.agg #[.int .i32 c, .bool false, .int .i64 k], .bool false, .int .u16 30, .int .i64 n]) ∧ w.grownBy w' (some g) ∧ w'.heap[g]? = some (.cells #[.slice (some ad) n c0, .int .i64 ((k : Int) + 1), .int .i32 e] 56 (0, 0)) := by
  have HB := Aside0.mk hb
  have b0 : (k : Int) < n := by omega
  have b1 : (0 : Int) ≤ k := by omega
  clear hb hk
  have HNE := Aside0.mk hne0
  clear hne0
  have HX := Aside0.mk hx
  clear hx
  have b2 : (n : Int) ≤ (k : Int) + 1 := by omega
  clear hk2
  go_enter Try.func22, Try.ntmps22
  go_wp2
  have HS := Aside0.mk (NS.start HB.out)
  generalize w.alloc (Obj.cells #[Value.int .i32 0, Value.bool false, Value.int .i64 0] 64) = w0 at HS ⊢
  obtain ⟨gs, hgs⟩ : ∃ gs, gs = w.heap.size := ⟨_, rfl⟩
  rw [← hgs] at HS ⊢
  clear hgs HB
  have hne : g ≠ gs := HS.out.ne
  have q0 : w0.cell? ⟨g, 0, none⟩ = some (.slice (some ad) n c0) := blk_cell HS.out.rb 0
  have q1 : w0.cell? ⟨g, 1, none⟩ = some (.int .i64 (k)) := blk_cell HS.out.rb 1
  have q2 : w0.cell? ⟨g, 2, none⟩ = some (.int .i32 e) := blk_cell HS.out.rb 2
  have r0 : w0.cell? ⟨gs, 0, none⟩ = some (.int .i32 0) := blk_cell HS.out.st 0
  have r1 : w0.cell? ⟨gs, 1, none⟩ = some (.bool false) := blk_cell HS.out.st 1
  have r2 : w0.cell? ⟨gs, 2, none⟩ = some (.int .i64 0) := blk_cell HS.out.st 2
  have f0 := blk_frozen HS.out.st 0
  have f1 := blk_frozen HS.out.st 1
  have f2 := blk_frozen HS.out.st 2
  have fg := blk_frozen HS.out.rb 1
  go_quiet (fail)
  go_wp2
  clear q0 q1 q2 r0 r1 r2 f0 f1 f2 fg
  have HS_ := Aside0.mk (HS.out.drewN nq)
  clear HS
  have HS := HS_
  clear HS_
  generalize w0.drewN nq = w1 at HS ⊢
  have q0 : w1.cell? ⟨g, 0, none⟩ = some (.slice (some ad) n c0) := blk_cell HS.out.rb 0
  have q1 : w1.cell? ⟨g, 1, none⟩ = some (.int .i64 (k)) := blk_cell HS.out.rb 1
  have q2 : w1.cell? ⟨g, 2, none⟩ = some (.int .i32 e) := blk_cell HS.out.rb 2
  have r0 : w1.cell? ⟨gs, 0, none⟩ = some (.int .i32 0) := blk_cell HS.out.st 0
  have r1 : w1.cell? ⟨gs, 1, none⟩ = some (.bool false) := blk_cell HS.out.st 1
  have r2 : w1.cell? ⟨gs, 2, none⟩ = some (.int .i64 0) := blk_cell HS.out.st 2
  have f0 := blk_frozen HS.out.st 0
  have f1 := blk_frozen HS.out.st 1
  have f2 := blk_frozen HS.out.st 2
  have fg := blk_frozen HS.out.rb 1
  have hc2 : w1.cell? (ad.add k) = some (.int .i32 c) := HS.out.old hc hgl
  go_still_tail 15, (by kernel_rfl)
  go_wp2
  clear hc2
  clear q0 q1 q2 r0 r1 r2 f0 f1 f2 fg
  have HS_ := Aside0.mk (((((HS.out.s0 c).s1 false).s2 k).g1 ((k : Int) + 1)).drew)
  clear HS
  have HS := HS_
  clear HS_
  generalize ((((w1.setCell ⟨gs, 0, none⟩ (.int .i32 c)).setCell ⟨gs, 1, none⟩ (.bool false)).setCell ⟨gs, 2, none⟩ (.int .i64 k)).setCell ⟨g, 1, none⟩ (.int .i64 ((k : Int) + 1))).drew = w2 at HS ⊢
  have q0 : w2.cell? ⟨g, 0, none⟩ = some (.slice (some ad) n c0) := blk_cell HS.out.rb 0
  have q1 : w2.cell? ⟨g, 1, none⟩ = some (.int .i64 ((k : Int) + 1)) := blk_cell HS.out.rb 1
  have q2 : w2.cell? ⟨g, 2, none⟩ = some (.int .i32 e) := blk_cell HS.out.rb 2
  have r0 : w2.cell? ⟨gs, 0, none⟩ = some (.int .i32 c) := blk_cell HS.out.st 0
  have r1 : w2.cell? ⟨gs, 1, none⟩ = some (.bool false) := blk_cell HS.out.st 1
  have r2 : w2.cell? ⟨gs, 2, none⟩ = some (.int .i64 k) := blk_cell HS.out.st 2
  have f0 := blk_frozen HS.out.st 0
  have f1 := blk_frozen HS.out.st 1
  have f2 := blk_frozen HS.out.st 2
  have fg := blk_frozen HS.out.rb 1
  have hceb : (c == e) = false := beq_eq_false_iff_ne.mpr HNE.out
  have hxb : (c == 10) = false := beq_eq_false_iff_ne.mpr (by rw [HX.out]; decide)
  have hyb : (c != 92) = false := bne_eq_false_iff_eq.mpr HX.out
  go_quiet (fail)
  go_wp2
  clear q0 q1 q2 r0 r1 r2 f0 f1 f2 fg
  have HS_ := Aside0.mk (HS.out.drewN nq)
  clear HS
  have HS := HS_
  clear HS_
  generalize w2.drewN nq = w3 at HS ⊢
  have q0 : w3.cell? ⟨g, 0, none⟩ = some (.slice (some ad) n c0) := blk_cell HS.out.rb 0
  have q1 : w3.cell? ⟨g, 1, none⟩ = some (.int .i64 ((k : Int) + 1)) := blk_cell HS.out.rb 1
  have q2 : w3.cell? ⟨g, 2, none⟩ = some (.int .i32 e) := blk_cell HS.out.rb 2
  have r0 : w3.cell? ⟨gs, 0, none⟩ = some (.int .i32 c) := blk_cell HS.out.st 0
  have r1 : w3.cell? ⟨gs, 1, none⟩ = some (.bool false) := blk_cell HS.out.st 1
  have r2 : w3.cell? ⟨gs, 2, none⟩ = some (.int .i64 k) := blk_cell HS.out.st 2
  have f0 := blk_frozen HS.out.st 0
  have f1 := blk_frozen HS.out.st 1
  have f2 := blk_frozen HS.out.st 2
  have fg := blk_frozen HS.out.rb 1
  go_wp2
  go_quiet (fail)
  go_wp2
  clear q0 q1 q2 r0 r1 r2 f0 f1 f2 fg
  have HS_ := Aside0.mk (HS.out.drewN nq)
  clear HS
  have HS := HS_
  clear HS_
  generalize w3.drewN nq = w4 at HS ⊢
  have q0 : w4.cell? ⟨g, 0, none⟩ = some (.slice (some ad) n c0) := blk_cell HS.out.rb 0
  have q1 : w4.cell? ⟨g, 1, none⟩ = some (.int .i64 ((k : Int) + 1)) := blk_cell HS.out.rb 1
  have q2 : w4.cell? ⟨g, 2, none⟩ = some (.int .i32 e) := blk_cell HS.out.rb 2
  have r0 : w4.cell? ⟨gs, 0, none⟩ = some (.int .i32 c) := blk_cell HS.out.st 0
  have r1 : w4.cell? ⟨gs, 1, none⟩ = some (.bool false) := blk_cell HS.out.st 1
  have r2 : w4.cell? ⟨gs, 2, none⟩ = some (.int .i64 k) := blk_cell HS.out.st 2
  have f0 := blk_frozen HS.out.st 0
  have f1 := blk_frozen HS.out.st 1
  have f2 := blk_frozen HS.out.st 2
  have fg := blk_frozen HS.out.rb 1
  refine start_ (n := 10) (S := fun w' => w'.cell? ⟨gs, 0, none⟩ = some (.int .i32 c) ∧ w'.cell? ⟨gs, 1, none⟩ = some (.bool false) ∧ w'.cell? ⟨gs, 2, none⟩ = some (.int .i64 k) ∧ w'.cell? ⟨g, 0, none⟩ = some (.slice (some ad) n c0)) (ds := []) #[false, false, false, false, false, false, false, false, false, false] (by kernel_rfl) rfl rfl ⟨r0, r1, r2, q0⟩ (fun hHeld => ?_)
  clear q0 q1 q2 r0 r1 r2 f0 f1 f2 fg
  have HS_ := Aside0.mk HS.out.drew
  clear HS
  have HS := HS_
  clear HS_
  generalize w4.drew = w5 at HS hHeld ⊢
  refine pure_ (i := 1) (N := some 77) (v := ?_) (a' := ?_) #[false, true, false, false, false, false, false, false, false, false] rfl rfl (by kernel_rfl) (fun _ _ _ h => h) (Or.inl ⟨by rfl, ?_⟩) ?_ ?_
  rotate_left
  · intro w'
    go_simp
    with_reducible rfl
  rotate_left
  · simp only [Act.put, List.setIfInBounds_toArray, List.set_cons_zero, List.set_cons_succ, i64_w, i32_w]
    rfl
  refine pure_ (i := 2) (N := some 78) (v := ?_) (a' := ?_) #[false, true, true, false, false, false, false, false, false, false] rfl rfl (by kernel_rfl) (fun _ _ _ h => h) (Or.inl ⟨by rfl, ?_⟩) ?_ ?_
  rotate_left
  · intro w'
    go_simp
    with_reducible rfl
  rotate_left
  · simp only [Act.put, List.setIfInBounds_toArray, List.set_cons_zero, List.set_cons_succ, i64_w, i32_w]
    rfl
  refine pure_ (i := 3) (N := some 79) (v := ?_) (a' := ?_) #[false, true, true, true, false, false, false, false, false, false] rfl rfl (by kernel_rfl) (fun _ _ _ h => h) (Or.inl ⟨by rfl, ?_⟩) ?_ ?_
  rotate_left
  · intro w'
    go_simp
    with_reducible rfl
  rotate_left
  · simp only [Act.put, List.setIfInBounds_toArray, List.set_cons_zero, List.set_cons_succ, i64_w, i32_w]
    rfl
  refine take_ (i := 0) (N := some 76) (v := ?_) (a' := ?_) #[true, true, true, true, false, false, false, false, false, false] rfl rfl (by kernel_rfl) (fun _ _ _ h => h) (Or.inl ⟨by rfl, ?_⟩) hHeld ?_ ?_
  rotate_left
  · rintro w' ⟨s0, s1, s2, s3⟩
    go_simp
    with_reducible rfl
  rotate_left
  · simp only [Act.put, List.setIfInBounds_toArray, List.set_cons_zero, List.set_cons_succ, i64_w, i32_w]
    rfl
  refine take_ (i := 4) (N := some 80) (v := ?_) (a' := ?_) #[true, true, true, true, true, false, false, false, false, false] rfl rfl (by kernel_rfl) (fun _ _ _ h => h) (Or.inl ⟨by rfl, ?_⟩) hHeld ?_ ?_
  rotate_left
  · rintro w' ⟨s0, s1, s2, s3⟩
    go_simp
    with_reducible rfl
  rotate_left
  · simp only [Act.put, List.setIfInBounds_toArray, List.set_cons_zero, List.set_cons_succ, i64_w, i32_w]
    rfl
  refine pure_ (i := 5) (N := some 81) (v := ?_) (a' := ?_) #[true, true, true, true, true, true, false, false, false, false] rfl rfl (by kernel_rfl) (fun _ _ _ h => h) (Or.inl ⟨by rfl, ?_⟩) ?_ ?_
  rotate_left
  · intro w'
    go_simp
    with_reducible rfl
  rotate_left
  · simp only [Act.put, List.setIfInBounds_toArray, List.set_cons_zero, List.set_cons_succ, i64_w, i32_w]
    rfl
  have q0 : w5.cell? ⟨g, 0, none⟩ = some (.slice (some ad) n c0) := blk_cell HS.out.rb 0
  have q1 : w5.cell? ⟨g, 1, none⟩ = some (.int .i64 ((k : Int) + 1)) := blk_cell HS.out.rb 1
  have q2 : w5.cell? ⟨g, 2, none⟩ = some (.int .i32 e) := blk_cell HS.out.rb 2
  have r0 : w5.cell? ⟨gs, 0, none⟩ = some (.int .i32 c) := blk_cell HS.out.st 0
  have r1 : w5.cell? ⟨gs, 1, none⟩ = some (.bool false) := blk_cell HS.out.st 1
  have r2 : w5.cell? ⟨gs, 2, none⟩ = some (.int .i64 k) := blk_cell HS.out.st 2
  have f0 := blk_frozen HS.out.st 0
  have f1 := blk_frozen HS.out.st 1
  have f2 := blk_frozen HS.out.st 2
  have fg := blk_frozen HS.out.rb 1
  have HS2 := Aside0.mk (((HS.out.s0 c).s1 false).s2 k)
  refine one_ (i := 6) (N := none) #[true, true, true, true, true, true, true, false, false, false] rfl rfl (by kernel_rfl) (by decide) (fun K hK => ?_)
  refine skip_ (w1 := ?_) (by rfl) rfl ?_ ?_
  rotate_left
  · go_simp
    rfl
  refine hK.out _ _ ⟨blk_cell HS2.out.st 0, blk_cell HS2.out.st 1, blk_cell HS2.out.st 2, blk_cell HS2.out.rb 0⟩ (fun hHeld => ?_)
  clear hK K
  refine pure_ (i := 7) (N := some 3) (v := ?_) (a' := ?_) #[true, true, true, true, true, true, true, true, false, false] rfl rfl (by kernel_rfl) (fun _ _ _ h => h) (Or.inl ⟨by rfl, ?_⟩) ?_ ?_
  rotate_left
  · intro w'
    go_simp
    with_reducible rfl
  rotate_left
  · simp only [Act.put, List.setIfInBounds_toArray, List.set_cons_zero, List.set_cons_succ, i64_w, i32_w]
    rfl
  refine pure_ (i := 8) (N := some 4) (v := ?_) (a' := ?_) #[true, true, true, true, true, true, true, true, true, false] rfl rfl (by kernel_rfl) (fun _ _ _ h => h) (Or.inl ⟨by rfl, ?_⟩) ?_ ?_
  rotate_left
  · intro w'
    go_simp
    with_reducible rfl
  rotate_left
  · simp only [Act.put, List.setIfInBounds_toArray, List.set_cons_zero, List.set_cons_succ, i64_w, i32_w]
    rfl
  refine pure_ (i := 9) (N := some 5) (v := ?_) (a' := ?_) #[true, true, true, true, true, true, true, true, true, true] rfl rfl (by kernel_rfl) (fun _ _ _ h => h) (Or.inl ⟨by rfl, ?_⟩) ?_ ?_
  rotate_left
  · intro w'
    go_simp
    with_reducible rfl
  rotate_left
  · simp only [Act.put, List.setIfInBounds_toArray, List.set_cons_zero, List.set_cons_succ, i64_w, i32_w]
    rfl
  refine done_ (by kernel_rfl) ?_
  clear q0 q1 q2 r0 r1 r2 f0 f1 f2 fg
  clear HS hHeld
  have HS := HS2
  clear HS2
  generalize ((w5.setCell ⟨gs, 0, none⟩ (.int .i32 c)).setCell ⟨gs, 1, none⟩ (.bool false)).setCell ⟨gs, 2, none⟩ (.int .i64 k) = w6 at HS ⊢
  have q0 : w6.cell? ⟨g, 0, none⟩ = some (.slice (some ad) n c0) := blk_cell HS.out.rb 0
  have q1 : w6.cell? ⟨g, 1, none⟩ = some (.int .i64 ((k : Int) + 1)) := blk_cell HS.out.rb 1
  have q2 : w6.cell? ⟨g, 2, none⟩ = some (.int .i32 e) := blk_cell HS.out.rb 2
  have r0 : w6.cell? ⟨gs, 0, none⟩ = some (.int .i32 c) := blk_cell HS.out.st 0
  have r1 : w6.cell? ⟨gs, 1, none⟩ = some (.bool false) := blk_cell HS.out.st 1
  have r2 : w6.cell? ⟨gs, 2, none⟩ = some (.int .i64 k) := blk_cell HS.out.st 2
  have f0 := blk_frozen HS.out.st 0
  have f1 := blk_frozen HS.out.st 1
  have f2 := blk_frozen HS.out.st 2
  have fg := blk_frozen HS.out.rb 1
  go_wp2
  clear q0 q1 q2 r0 r1 r2 f0 f1 f2 fg
  refine bodyPost_ret (results_cell4 rfl _ _ gs [.int .i32 c, .bool false, .int .i64 k] rfl Try.underlying64 size64 (box_cells HS.out.st)) rfl ?_
  exact ⟨rfl, HS.out.gr, HS.out.rb⟩
set_option maxRecDepth 100000 in
set_option maxHeartbeats 1000000 in
theorem next_stroke (g : Nat) (ad : Addr) (n c0 k : Nat) (e c d : Int) (w : World) (hb : w.heap[g]? = some (.cells #[.slice (some ad) n c0, .int .i64 k, .int .i32 e] 56 (0, 0))) (hk : k < n) (hc : w.cell? (ad.add k) = some (.int .i32 c)) (hgl : ad.block ≠ g) (hwk : wrap64 ((k : Int) + 1) = (k : Int) + 1) (hne0 : c ≠ e) (hx : c = 92) (hk2 : k + 1 < n) (hd : w.cell? (ad.add (k + 1)) = some (.int .i32 d)) (hwk2 : wrap64 ((k : Int) + 1 + 1) = (k : Int) + 1 + 1) :
    Calls Try.prog 22 #[.pointer (some ⟨g, 0, none⟩)] w fun r w' => r = .returned (.tuple #[.agg #[.int .i32 d, .bool true, .int .i64 k], .bool true, .int .u16 0, .int .i64 0]) ∧ w.grownBy w' (some g) ∧ w'.heap[g]? = some (.cells #[.slice (some ad) n c0, .int .i64 ((k : Int) + 1 + 1), .int .i32 e] 56 (0, 0)) := by
  have HB := Aside0.mk hb
  have b0 : (k : Int) < n := by omega
  have b1 : (0 : Int) ≤ k := by omega
  clear hb hk
  have HNE := Aside0.mk hne0
  clear hne0
  have HX := Aside0.mk hx
  clear hx
  have b2 : (k : Int) + 1 < n := by omega
  have b3 : (0 : Int) ≤ (k : Int) + 1 := by omega
  have HD := Aside0.mk (show w.cell? ⟨ad.block, ad.off + (k + 1), none⟩ = some (.int .i32 d) from hd)
  clear hd hk2
  go_enter Try.func22, Try.ntmps22
  go_wp2
  have HS := Aside0.mk (NS.start HB.out)
  generalize w.alloc (Obj.cells #[Value.int .i32 0, Value.bool false, Value.int .i64 0] 64) = w0 at HS ⊢
  obtain ⟨gs, hgs⟩ : ∃ gs, gs = w.heap.size := ⟨_, rfl⟩
  rw [← hgs] at HS ⊢
  clear hgs HB
  have hne : g ≠ gs := HS.out.ne
  have q0 : w0.cell? ⟨g, 0, none⟩ = some (.slice (some ad) n c0) := blk_cell HS.out.rb 0
  have q1 : w0.cell? ⟨g, 1, none⟩ = some (.int .i64 (k)) := blk_cell HS.out.rb 1
  have q2 : w0.cell? ⟨g, 2, none⟩ = some (.int .i32 e) := blk_cell HS.out.rb 2
  have r0 : w0.cell? ⟨gs, 0, none⟩ = some (.int .i32 0) := blk_cell HS.out.st 0
  have r1 : w0.cell? ⟨gs, 1, none⟩ = some (.bool false) := blk_cell HS.out.st 1
  have r2 : w0.cell? ⟨gs, 2, none⟩ = some (.int .i64 0) := blk_cell HS.out.st 2
  have f0 := blk_frozen HS.out.st 0
  have f1 := blk_frozen HS.out.st 1
  have f2 := blk_frozen HS.out.st 2
  have fg := blk_frozen HS.out.rb 1
  go_quiet (fail)
  go_wp2
  clear q0 q1 q2 r0 r1 r2 f0 f1 f2 fg
  have HS_ := Aside0.mk (HS.out.drewN nq)
  clear HS
  have HS := HS_
  clear HS_
  generalize w0.drewN nq = w1 at HS ⊢
  have q0 : w1.cell? ⟨g, 0, none⟩ = some (.slice (some ad) n c0) := blk_cell HS.out.rb 0
  have q1 : w1.cell? ⟨g, 1, none⟩ = some (.int .i64 (k)) := blk_cell HS.out.rb 1
  have q2 : w1.cell? ⟨g, 2, none⟩ = some (.int .i32 e) := blk_cell HS.out.rb 2
  have r0 : w1.cell? ⟨gs, 0, none⟩ = some (.int .i32 0) := blk_cell HS.out.st 0
  have r1 : w1.cell? ⟨gs, 1, none⟩ = some (.bool false) := blk_cell HS.out.st 1
  have r2 : w1.cell? ⟨gs, 2, none⟩ = some (.int .i64 0) := blk_cell HS.out.st 2
  have f0 := blk_frozen HS.out.st 0
  have f1 := blk_frozen HS.out.st 1
  have f2 := blk_frozen HS.out.st 2
  have fg := blk_frozen HS.out.rb 1
  have hc2 : w1.cell? (ad.add k) = some (.int .i32 c) := HS.out.old hc hgl
  go_still_tail 15, (by kernel_rfl)
  go_wp2
  clear hc2
  clear q0 q1 q2 r0 r1 r2 f0 f1 f2 fg
  have HS_ := Aside0.mk (((((HS.out.s0 c).s1 false).s2 k).g1 ((k : Int) + 1)).drew)
  clear HS
  have HS := HS_
  clear HS_
  generalize ((((w1.setCell ⟨gs, 0, none⟩ (.int .i32 c)).setCell ⟨gs, 1, none⟩ (.bool false)).setCell ⟨gs, 2, none⟩ (.int .i64 k)).setCell ⟨g, 1, none⟩ (.int .i64 ((k : Int) + 1))).drew = w2 at HS ⊢
  have q0 : w2.cell? ⟨g, 0, none⟩ = some (.slice (some ad) n c0) := blk_cell HS.out.rb 0
  have q1 : w2.cell? ⟨g, 1, none⟩ = some (.int .i64 ((k : Int) + 1)) := blk_cell HS.out.rb 1
  have q2 : w2.cell? ⟨g, 2, none⟩ = some (.int .i32 e) := blk_cell HS.out.rb 2
  have r0 : w2.cell? ⟨gs, 0, none⟩ = some (.int .i32 c) := blk_cell HS.out.st 0
  have r1 : w2.cell? ⟨gs, 1, none⟩ = some (.bool false) := blk_cell HS.out.st 1
  have r2 : w2.cell? ⟨gs, 2, none⟩ = some (.int .i64 k) := blk_cell HS.out.st 2
  have f0 := blk_frozen HS.out.st 0
  have f1 := blk_frozen HS.out.st 1
  have f2 := blk_frozen HS.out.st 2
  have fg := blk_frozen HS.out.rb 1
  have hceb : (c == e) = false := beq_eq_false_iff_ne.mpr HNE.out
  have hxb : (c == 10) = false := beq_eq_false_iff_ne.mpr (by rw [HX.out]; decide)
  have hyb : (c != 92) = false := bne_eq_false_iff_eq.mpr HX.out
  go_quiet (fail)
  go_wp2
  clear q0 q1 q2 r0 r1 r2 f0 f1 f2 fg
  have HS_ := Aside0.mk (HS.out.drewN nq)
  clear HS
  have HS := HS_
  clear HS_
  generalize w2.drewN nq = w3 at HS ⊢
  have q0 : w3.cell? ⟨g, 0, none⟩ = some (.slice (some ad) n c0) := blk_cell HS.out.rb 0
  have q1 : w3.cell? ⟨g, 1, none⟩ = some (.int .i64 ((k : Int) + 1)) := blk_cell HS.out.rb 1
  have q2 : w3.cell? ⟨g, 2, none⟩ = some (.int .i32 e) := blk_cell HS.out.rb 2
  have r0 : w3.cell? ⟨gs, 0, none⟩ = some (.int .i32 c) := blk_cell HS.out.st 0
  have r1 : w3.cell? ⟨gs, 1, none⟩ = some (.bool false) := blk_cell HS.out.st 1
  have r2 : w3.cell? ⟨gs, 2, none⟩ = some (.int .i64 k) := blk_cell HS.out.st 2
  have f0 := blk_frozen HS.out.st 0
  have f1 := blk_frozen HS.out.st 1
  have f2 := blk_frozen HS.out.st 2
  have fg := blk_frozen HS.out.rb 1
  go_wp2
  go_quiet (fail)
  go_wp2
  clear q0 q1 q2 r0 r1 r2 f0 f1 f2 fg
  have HS_ := Aside0.mk (HS.out.drewN nq)
  clear HS
  have HS := HS_
  clear HS_
  generalize w3.drewN nq = w4 at HS ⊢
  have q0 : w4.cell? ⟨g, 0, none⟩ = some (.slice (some ad) n c0) := blk_cell HS.out.rb 0
  have q1 : w4.cell? ⟨g, 1, none⟩ = some (.int .i64 ((k : Int) + 1)) := blk_cell HS.out.rb 1
  have q2 : w4.cell? ⟨g, 2, none⟩ = some (.int .i32 e) := blk_cell HS.out.rb 2
  have r0 : w4.cell? ⟨gs, 0, none⟩ = some (.int .i32 c) := blk_cell HS.out.st 0
  have r1 : w4.cell? ⟨gs, 1, none⟩ = some (.bool false) := blk_cell HS.out.st 1
  have r2 : w4.cell? ⟨gs, 2, none⟩ = some (.int .i64 k) := blk_cell HS.out.st 2
  have f0 := blk_frozen HS.out.st 0
  have f1 := blk_frozen HS.out.st 1
  have f2 := blk_frozen HS.out.st 2
  have fg := blk_frozen HS.out.rb 1
  have hd2 : w4.cell? ⟨ad.block, ad.off + (k + 1), none⟩ = some (.int .i32 d) := HS.out.oldA HD.out hgl
  refine start_ (n := 14) (S := fun w' => w'.cell? ⟨g, 0, none⟩ = some (.slice (some ad) n c0) ∧ w'.cell? ⟨g, 1, none⟩ = some (.int .i64 ((k : Int) + 1)) ∧ w'.cell? ⟨ad.block, ad.off + (k + 1), none⟩ = some (.int .i32 d)) (ds := []) #[false, false, false, false, false, false, false, false, false, false, false, false, false, false] (by kernel_rfl) rfl rfl ⟨q0, q1, hd2⟩ (fun hHeld => ?_)
  clear q0 q1 q2 r0 r1 r2 f0 f1 f2 fg
  clear hd2
  have HS_ := Aside0.mk HS.out.drew
  clear HS
  have HS := HS_
  clear HS_
  generalize w4.drew = w5 at HS hHeld ⊢
  refine pure_ (i := 0) (N := some 82) (v := ?_) (a' := ?_) #[true, false, false, false, false, false, false, false, false, false, false, false, false, false] rfl rfl (by kernel_rfl) (fun _ _ _ h => h) (Or.inl ⟨by rfl, ?_⟩) ?_ ?_
  rotate_left
  · intro w'
    go_simp
    with_reducible rfl
  rotate_left
  · simp only [Act.put, List.setIfInBounds_toArray, List.set_cons_zero, List.set_cons_succ, i64_w, i32_w]
    rfl
  refine pure_ (i := 1) (N := some 83) (v := ?_) (a' := ?_) #[true, true, false, false, false, false, false, false, false, false, false, false, false, false] rfl rfl (by kernel_rfl) (fun _ _ _ h => h) (Or.inl ⟨by rfl, ?_⟩) ?_ ?_
  rotate_left
  · intro w'
    go_simp
    with_reducible rfl
  rotate_left
  · simp only [Act.put, List.setIfInBounds_toArray, List.set_cons_zero, List.set_cons_succ, i64_w, i32_w]
    rfl
  refine pure_ (i := 2) (N := some 84) (v := ?_) (a' := ?_) #[true, true, true, false, false, false, false, false, false, false, false, false, false, false] rfl rfl (by kernel_rfl) (fun _ _ _ h => h) (Or.inl ⟨by rfl, ?_⟩) ?_ ?_
  rotate_left
  · intro w'
    go_simp
    with_reducible rfl
  rotate_left
  · simp only [Act.put, List.setIfInBounds_toArray, List.set_cons_zero, List.set_cons_succ, i64_w, i32_w]
    rfl
  refine take_ (i := 3) (N := some 85) (v := ?_) (a' := ?_) #[true, true, true, true, false, false, false, false, false, false, false, false, false, false] rfl rfl (by kernel_rfl) (fun _ _ _ h => h) (Or.inl ⟨by rfl, ?_⟩) hHeld ?_ ?_
  rotate_left
  · rintro w' ⟨s0, s1, s2⟩
    go_simp
    with_reducible rfl
  rotate_left
  · simp only [Act.put, List.setIfInBounds_toArray, List.set_cons_zero, List.set_cons_succ, i64_w, i32_w]
    rfl
  refine pure_ (i := 4) (N := some 86) (v := ?_) (a' := ?_) #[true, true, true, true, true, false, false, false, false, false, false, false, false, false] rfl rfl (by kernel_rfl) (fun _ _ _ h => h) (Or.inl ⟨by rfl, ?_⟩) ?_ ?_
  rotate_left
  · intro w'
    go_simp
    with_reducible rfl
  rotate_left
  · simp only [Act.put, List.setIfInBounds_toArray, List.set_cons_zero, List.set_cons_succ, i64_w, i32_w]
    rfl
  refine pure_ (i := 5) (N := some 87) (v := ?_) (a' := ?_) #[true, true, true, true, true, true, false, false, false, false, false, false, false, false] rfl rfl (by kernel_rfl) (fun _ _ _ h => h) (Or.inl ⟨by rfl, ?_⟩) ?_ ?_
  rotate_left
  · intro w'
    go_simp
    with_reducible rfl
  rotate_left
  · simp only [Act.put, List.setIfInBounds_toArray, List.set_cons_zero, List.set_cons_succ, i64_w, i32_w]
    rfl
  refine pure_ (i := 6) (N := some 88) (v := ?_) (a' := ?_) #[true, true, true, true, true, true, true, false, false, false, false, false, false, false] rfl rfl (by kernel_rfl) (fun _ _ _ h => h) (Or.inl ⟨by rfl, ?_⟩) ?_ ?_
  rotate_left
  · intro w'
    go_simp
    with_reducible rfl
  rotate_left
  · simp only [Act.put, List.setIfInBounds_toArray, List.set_cons_zero, List.set_cons_succ, i64_w, i32_w]
    rfl
  refine take_ (i := 7) (N := some 89) (v := ?_) (a' := ?_) #[true, true, true, true, true, true, true, true, false, false, false, false, false, false] rfl rfl (by kernel_rfl) (fun _ _ _ h => h) (Or.inl ⟨by rfl, ?_⟩) hHeld ?_ ?_
  rotate_left
  · rintro w' ⟨s0, s1, s2⟩
    go_simp
    with_reducible rfl
  rotate_left
  · simp only [Act.put, List.setIfInBounds_toArray, List.set_cons_zero, List.set_cons_succ, i64_w, i32_w]
    rfl
  refine pure_ (i := 8) (N := some 90) (v := ?_) (a' := ?_) #[true, true, true, true, true, true, true, true, true, false, false, false, false, false] rfl rfl (by kernel_rfl) (fun _ _ _ h => h) (Or.inl ⟨by rfl, ?_⟩) ?_ ?_
  rotate_left
  · intro w'
    go_simp
    with_reducible rfl
  rotate_left
  · simp only [Act.put, List.setIfInBounds_toArray, List.set_cons_zero, List.set_cons_succ, i64_w, i32_w]
    rfl
  refine take_ (i := 9) (N := some 91) (v := ?_) (a' := ?_) #[true, true, true, true, true, true, true, true, true, true, false, false, false, false] rfl rfl (by kernel_rfl) (fun _ _ _ h => h) (Or.inl ⟨by rfl, ?_⟩) hHeld ?_ ?_
  rotate_left
  · rintro w' ⟨s0, s1, s2⟩
    go_simp
    with_reducible rfl
  rotate_left
  · simp only [Act.put, List.setIfInBounds_toArray, List.set_cons_zero, List.set_cons_succ, i64_w, i32_w]
    rfl
  refine pure_ (i := 10) (N := some 92) (v := ?_) (a' := ?_) #[true, true, true, true, true, true, true, true, true, true, true, false, false, false] rfl rfl (by kernel_rfl) (fun _ _ _ h => h) (Or.inl ⟨by rfl, ?_⟩) ?_ ?_
  rotate_left
  · intro w'
    go_simp
    with_reducible rfl
  rotate_left
  · simp only [Act.put, List.setIfInBounds_toArray, List.set_cons_zero, List.set_cons_succ, i64_w, i32_w]
    rfl
  have q0 : w5.cell? ⟨g, 0, none⟩ = some (.slice (some ad) n c0) := blk_cell HS.out.rb 0
  have q1 : w5.cell? ⟨g, 1, none⟩ = some (.int .i64 ((k : Int) + 1)) := blk_cell HS.out.rb 1
  have q2 : w5.cell? ⟨g, 2, none⟩ = some (.int .i32 e) := blk_cell HS.out.rb 2
  have r0 : w5.cell? ⟨gs, 0, none⟩ = some (.int .i32 c) := blk_cell HS.out.st 0
  have r1 : w5.cell? ⟨gs, 1, none⟩ = some (.bool false) := blk_cell HS.out.st 1
  have r2 : w5.cell? ⟨gs, 2, none⟩ = some (.int .i64 k) := blk_cell HS.out.st 2
  have f0 := blk_frozen HS.out.st 0
  have f1 := blk_frozen HS.out.st 1
  have f2 := blk_frozen HS.out.st 2
  have fg := blk_frozen HS.out.rb 1
  have HS2 := Aside0.mk (HS.out.s0 d)
  have HS3 := Aside0.mk (HS2.out.s1 true)
  refine one_ (i := 11) (N := none) #[true, true, true, true, true, true, true, true, true, true, true, true, false, false] rfl rfl (by kernel_rfl) (by decide) (fun K hK => ?_)
  refine skip_ (w1 := ?_) (by rfl) rfl ?_ ?_
  rotate_left
  · go_simp
    rfl
  refine hK.out _ _ ⟨blk_cell HS2.out.rb 0, blk_cell HS2.out.rb 1, HS2.out.oldA HD.out hgl⟩ (fun hHeld => ?_)
  clear hK K
  refine pure_ (i := 12) (N := some 93) (v := ?_) (a' := ?_) #[true, true, true, true, true, true, true, true, true, true, true, true, true, false] rfl rfl (by kernel_rfl) (fun _ _ _ h => h) (Or.inl ⟨by rfl, ?_⟩) ?_ ?_
  rotate_left
  · intro w'
    go_simp
    with_reducible rfl
  rotate_left
  · simp only [Act.put, List.setIfInBounds_toArray, List.set_cons_zero, List.set_cons_succ, i64_w, i32_w]
    rfl
  clear q0 q1 q2 r0 r1 r2 f0 f1 f2 fg
  clear HS
  generalize w5.setCell ⟨gs, 0, none⟩ (.int .i32 d) = w6 at HS2 HS3 hHeld ⊢
  have HS := HS2
  clear HS2
  have q0 : w6.cell? ⟨g, 0, none⟩ = some (.slice (some ad) n c0) := blk_cell HS.out.rb 0
  have q1 : w6.cell? ⟨g, 1, none⟩ = some (.int .i64 ((k : Int) + 1)) := blk_cell HS.out.rb 1
  have q2 : w6.cell? ⟨g, 2, none⟩ = some (.int .i32 e) := blk_cell HS.out.rb 2
  have r0 : w6.cell? ⟨gs, 0, none⟩ = some (.int .i32 d) := blk_cell HS.out.st 0
  have r1 : w6.cell? ⟨gs, 1, none⟩ = some (.bool false) := blk_cell HS.out.st 1
  have r2 : w6.cell? ⟨gs, 2, none⟩ = some (.int .i64 k) := blk_cell HS.out.st 2
  have f0 := blk_frozen HS.out.st 0
  have f1 := blk_frozen HS.out.st 1
  have f2 := blk_frozen HS.out.st 2
  have fg := blk_frozen HS.out.rb 1
  refine one_ (i := 13) (N := none) #[true, true, true, true, true, true, true, true, true, true, true, true, true, true] rfl rfl (by kernel_rfl) (by decide) (fun K hK => ?_)
  refine skip_ (w1 := ?_) (by rfl) rfl ?_ ?_
  rotate_left
  · go_simp
    rfl
  refine hK.out _ _ ⟨blk_cell HS3.out.rb 0, blk_cell HS3.out.rb 1, HS3.out.oldA HD.out hgl⟩ (fun hHeld => ?_)
  clear hK K
  refine done_ (by kernel_rfl) ?_
  clear q0 q1 q2 r0 r1 r2 f0 f1 f2 fg
  clear HS hHeld
  have HS := HS3
  clear HS3
  generalize w6.setCell ⟨gs, 1, none⟩ (.bool true) = w7 at HS ⊢
  have q0 : w7.cell? ⟨g, 0, none⟩ = some (.slice (some ad) n c0) := blk_cell HS.out.rb 0
  have q1 : w7.cell? ⟨g, 1, none⟩ = some (.int .i64 ((k : Int) + 1)) := blk_cell HS.out.rb 1
  have q2 : w7.cell? ⟨g, 2, none⟩ = some (.int .i32 e) := blk_cell HS.out.rb 2
  have r0 : w7.cell? ⟨gs, 0, none⟩ = some (.int .i32 d) := blk_cell HS.out.st 0
  have r1 : w7.cell? ⟨gs, 1, none⟩ = some (.bool true) := blk_cell HS.out.st 1
  have r2 : w7.cell? ⟨gs, 2, none⟩ = some (.int .i64 k) := blk_cell HS.out.st 2
  have f0 := blk_frozen HS.out.st 0
  have f1 := blk_frozen HS.out.st 1
  have f2 := blk_frozen HS.out.st 2
  have fg := blk_frozen HS.out.rb 1
  go_wp2
  clear q0 q1 q2 r0 r1 r2 f0 f1 f2 fg
  have HS_ := Aside0.mk ((((HS.out.g1 ((k : Int) + 1 + 1)).s0 d).s1 true).s2 k)
  clear HS
  have HS := HS_
  clear HS_
  generalize (((w7.setCell ⟨g, 1, none⟩ (.int .i64 ((k : Int) + 1 + 1))).setCell ⟨gs, 0, none⟩ (.int .i32 d)).setCell ⟨gs, 1, none⟩ (.bool true)).setCell ⟨gs, 2, none⟩ (.int .i64 k) = w8 at HS ⊢
  refine bodyPost_ret (results_cell4 rfl _ _ gs [.int .i32 d, .bool true, .int .i64 k] rfl Try.underlying64 size64 (box_cells HS.out.st)) rfl ?_
  exact ⟨rfl, HS.out.gr, HS.out.rb⟩
end Go.Proofs.Ytfgccmgfkfhfcaa.PAll
