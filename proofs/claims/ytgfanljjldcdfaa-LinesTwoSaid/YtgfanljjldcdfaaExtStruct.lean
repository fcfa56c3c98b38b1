/- Small laws of this seat's own: a whole struct is read, or written, as one step of a walk. -/
import Derived.Test.YtgfanljjldcdfaaPAllx0
namespace Go.Proofs.Ytgfanljjldcdfaa.PAll
open Go.RowKit Go.Proofs.YtgfanljjldcdfaaW.PrintWords Go.Proofs.YtgfanljjldcdfaaW.PrintLast Go.Proofs.YtgfanljjldcdfaaW.PrintMore
section
variable {P : Program} {ops : Array Oper} {rest : List Oper} {o : Oper} {a : Act} {Q : Exit → Act → World → Prop} {W : World}

theorem run_load_whole (W : World) (t : TypeId) (ad : Addr) {fs : Array Field} (ht : P.underlying t = some (.struct fs)) (cs : List Value) (hi : (P.info? t).map (·.size) = some cs.length)
    (hc : ∀ j v, cs[j]? = some v → W.cell? (ad.add j) = some v) : (loadVar t ad).run P W = .ok (.agg cs.toArray) W := by
  have hl := run_loadCells_list (P := P) W ad cs hc
  cases hq : P.info? t with
  | none => simp [hq] at hi
  | some i =>
    have hs : i.size = cs.length := by simpa [hq] using hi
    have hagg : (isAgg t).run P W = .ok true W := by
      unfold isAgg
      rw [Sem.run_bind, run_underlying ht W]
      rfl
    simp only [loadVar, Sem.run_bind, hagg, Result.andThen_ok, if_true, sizeOf, typeInfo, hq, hs, hl, run_program, Sem.run_pure]

/-- A struct is loaded whole: its cells are a list's. -/
theorem load_whole (hg : o.guard = none) (t : TypeId) (x : Operand) (ho : o.op = .load t x) (ad : Addr) (hx : a.eval x = .pointer (some ad)) {fs : Array Field} (ht : P.underlying t = some (.struct fs)) (cs : List Value) (hi : (P.info? t).map (·.size) = some cs.length)
    (hc : ∀ j v, cs[j]? = some v → W.cell? (ad.add j) = some v) (h : wpList P ops Q rest (a.put o.dst (.agg cs.toArray)) W) : wpList P ops Q (o :: rest) a W := by
  refine wpList_plain hg fun K hK => ?_
  unfold Oper.wp execOp
  simp only [ho, hx, Instr.loadAt, Instr.sureAddr, Sem.run_bind, Sem.run_pure, Result.andThen_ok, run_load_whole W t ad ht cs hi hc]
  exact hK _ _ h

/-- A struct is stored whole into a block of its own: the block holds its cells; nothing else has turned. -/
theorem store_whole (hg : o.guard = none) (hd : o.dst = none) (t : TypeId) (x y : Operand) (ho : o.op = .store t x y) (g : Nat) (cs : List Value) (hx : a.eval x = .pointer (some ⟨g, 0, none⟩)) (hy : a.eval y = .agg cs.toArray)
    (old : Array Value) (hb : W.heap[g]? = some (.cells old t (0, 0))) (hi : (P.info? t).map (·.size) = some cs.length) (hold : old.size = cs.length) (h1 : ∀ v ∈ cs, v.oneCell' = true)
    (h : ∀ w1, w1.heap[g]? = some (.cells cs.toArray t (0, 0)) → W.grownBy w1 (some g) → wpList P ops Q rest a w1) : wpList P ops Q (o :: rest) a W := by
  refine wpList_plain hg fun K hK => wp_store_row t x y ho g cs.toArray hx hy t old hb (by simpa using hi) (by simpa using hold) (by simpa using h1) ?_
  rw [hd]
  refine hK _ _ (h _ ?_ ?_)
  · exact setRow_heap W g old cs.toArray t (0, 0) hb
  · exact ⟨rfl, rfl, rfl, by simp, fun k _ hk => setRow_other W g k _ (fun e => hk (by rw [e]))⟩

end
theorem cell_later {w w' : World} (hb : Below w.heap.size w w') {a : Addr} {v : Value} (h : w.cell? a = some v) : w'.cell? a = some v := (hb.cell (World.block_lt_of_cell? w _ h)).trans h
theorem size32 : (Try.prog.info? 32).map (·.size) = some 2 := by kernel_rfl
end Go.Proofs.Ytgfanljjldcdfaa.PAll
