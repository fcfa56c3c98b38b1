/- Same, of commands without lists in them. -/
import Derived.Test.YtgennlcbmepchaaExtRow
namespace Go.Proofs.Ytgennlcbmepchaa.PAll
open Go.RowKit Go.Maps Go.WideMaps Go.Proofs.YtgennlcbmepchaaW.PrintWords Go.Proofs.YtgennlcbmepchaaW.PrintLast Go.Proofs.YtgennlcbmepchaaW.PrintMore
set_option linter.unusedVariables false
set_option linter.unusedSimpArgs false
set_option maxRecDepth 100000 in
theorem compare_nil (A A' : Option Addr) (c c' : Nat) (w : World) : Calls Try.prog 20 #[.slice A 0 c, .slice A' 0 c'] w fun e w' => e = .returned (.int .i64 0) ∧ Below w.heap.size w w' := by
  go_enter Try.func20, Try.ntmps20
  go_wp2
  go_loop [5] (fun v => v = .int .i64 0) (fun v => 0)
  case atStart => rfl
  case round =>
    subst hrel
    go_wp2
    go_ret
    exact ⟨rfl, Below.refl _ _⟩
set_option maxRecDepth 100000 in
theorem same01_nil (A A' : Option Addr) (c c' : Nat) (w : World) : Calls Try.prog 16 #[.slice A 0 c, .slice A' 0 c'] w fun e w' => e = .returned (.bool true) ∧ Below w.heap.size w w' := by
  go_enter Try.func16, Try.ntmps16
  go_wp2_with (first | (go_at_call 20; (refine (compare_nil _ _ _ _ _).mono ?_); rintro e w1 ⟨rfl, hB⟩; have HB := Aside0.mk hB; clear hB))
  go_ret
  exact ⟨rfl, HB.out⟩
set_option maxRecDepth 100000 in
theorem tree_nil (A A' : Option Addr) (c c' : Nat) (g : Int) (w : World) : Calls Try.prog 17 #[.agg #[.slice A 0 c, .int .i64 g], .agg #[.slice A' 0 c', .int .i64 g]] w fun e w' => e = .returned (.bool true) ∧ Below w.heap.size w w' := by
  go_enter Try.func17, Try.ntmps17
  go_wp2
  go_loop [5] (fun v => v = .int .i64 0) (fun v => 0)
  case atStart => rfl
  case round =>
    subst hrel
    go_wp2
    go_ret
    exact ⟨rfl, below_alloc (below_alloc (Below.refl _ _) _) _⟩
set_option maxRecDepth 100000 in
theorem parts_nil (A A' : Option Addr) (c c' : Nat) (w : World) : Calls Try.prog 18 #[.slice A 0 c, .slice A' 0 c'] w fun e w' => e = .returned (.bool true) ∧ Below w.heap.size w w' := by
  go_enter Try.func18, Try.ntmps18
  go_wp2
  go_loop [5] (fun v => v = .int .i64 0) (fun v => 0)
  case atStart => rfl
  case round =>
    subst hrel
    go_wp2
    go_ret
    exact ⟨rfl, Below.refl _ _⟩
set_option maxRecDepth 100000 in
theorem pairs_nil (A A' : Option Addr) (c c' : Nat) (w : World) : Calls Try.prog 19 #[.slice A 0 c, .slice A' 0 c'] w fun e w' => e = .returned (.bool true) ∧ Below w.heap.size w w' := by
  go_enter Try.func19, Try.ntmps19
  go_wp2
  go_loop [5] (fun v => v = .int .i64 0) (fun v => 0)
  case atStart => rfl
  case round =>
    subst hrel
    go_wp2
    go_ret
    exact ⟨rfl, Below.refl _ _⟩
set_option maxRecDepth 100000 in
theorem addr_nil (A A' : Option Addr) (c c' : Nat) (k n g : Int) (x y : Bool) (w : World) : Calls Try.prog 15 #[.agg #[.int .u8 k, .int .i64 n, .slice A 0 c, .int .i64 g, .bool x, .bool y], .agg #[.int .u8 k, .int .i64 n, .slice A' 0 c', .int .i64 g, .bool x, .bool y]] w fun e w' => e = .returned (.bool true) ∧ Below w.heap.size w w' := by
  go_enter Try.func15, Try.ntmps15
  go_wp2_with (first | (go_at_call 17; (refine (tree_nil _ _ _ _ _ _).mono ?_); rintro e w1 ⟨rfl, hB⟩; have HB := Aside0.mk (Below.trans (below_alloc (below_alloc (Below.refl _ _) _) _) (hB.mono (by simp only [World.size_alloc]; omega))); clear hB))
  go_ret
  exact ⟨rfl, HB.out⟩
/-- The cells of a command without lists in it. -/
@[reducible] def cmdV (op : Int) (lab : ByteArray) (j p : Int) (A2 A8 A14 A17 A21 A25 : Option Addr) (c2 c8 c14 c17 c21 c25 : Nat) : List Value := [.int .u8 0, .int .i64 0, .slice A2 0 c2, .int .i64 0, .bool false, .bool false, .int .u8 0, .int .i64 0, .slice A8 0 c8, .int .i64 0, .bool false, .bool false, .bool false, .int .u8 op, .slice A14 0 c14, .string lab, .string ⟨#[]⟩, .slice A17 0 c17, .int .i64 0, .bool false, .bool false, .slice A21 0 c21, .int .i64 0, .bool false, .bool false, .slice A25 0 c25, .int .i64 j, .int .i64 p]
theorem cmdV_cells {W : World} {g : Nat} {op : Int} {lab : ByteArray} {j p : Int} {A2 A8 A14 A17 A21 A25 : Option Addr} {c2 c8 c14 c17 c21 c25 : Nat} (h : W.heap[g]? = some (.cells (cmdV op lab j p A2 A8 A14 A17 A21 A25 c2 c8 c14 c17 c21 c25).toArray 32 (0, 0))) : W.cell? ⟨g, 0, none⟩ = some (.int .u8 0) ∧ W.cell? ⟨g, 1, none⟩ = some (.int .i64 0) ∧ W.cell? ⟨g, 2, none⟩ = some (.slice A2 0 c2) ∧ W.cell? ⟨g, 3, none⟩ = some (.int .i64 0) ∧ W.cell? ⟨g, 4, none⟩ = some (.bool false) ∧ W.cell? ⟨g, 5, none⟩ = some (.bool false) ∧ W.cell? ⟨g, 6, none⟩ = some (.int .u8 0) ∧ W.cell? ⟨g, 7, none⟩ = some (.int .i64 0) ∧ W.cell? ⟨g, 8, none⟩ = some (.slice A8 0 c8) ∧ W.cell? ⟨g, 9, none⟩ = some (.int .i64 0) ∧ W.cell? ⟨g, 10, none⟩ = some (.bool false) ∧ W.cell? ⟨g, 11, none⟩ = some (.bool false) ∧ W.cell? ⟨g, 12, none⟩ = some (.bool false) ∧ W.cell? ⟨g, 13, none⟩ = some (.int .u8 op) ∧ W.cell? ⟨g, 14, none⟩ = some (.slice A14 0 c14) ∧ W.cell? ⟨g, 15, none⟩ = some (.string lab) ∧ W.cell? ⟨g, 16, none⟩ = some (.string ⟨#[]⟩) ∧ W.cell? ⟨g, 17, none⟩ = some (.slice A17 0 c17) ∧ W.cell? ⟨g, 18, none⟩ = some (.int .i64 0) ∧ W.cell? ⟨g, 19, none⟩ = some (.bool false) ∧ W.cell? ⟨g, 20, none⟩ = some (.bool false) ∧ W.cell? ⟨g, 21, none⟩ = some (.slice A21 0 c21) ∧ W.cell? ⟨g, 22, none⟩ = some (.int .i64 0) ∧ W.cell? ⟨g, 23, none⟩ = some (.bool false) ∧ W.cell? ⟨g, 24, none⟩ = some (.bool false) ∧ W.cell? ⟨g, 25, none⟩ = some (.slice A25 0 c25) ∧ W.cell? ⟨g, 26, none⟩ = some (.int .i64 j) ∧ W.cell? ⟨g, 27, none⟩ = some (.int .i64 p) :=
  ⟨(blk_cell h 0).trans rfl, (blk_cell h 1).trans rfl, (blk_cell h 2).trans rfl, (blk_cell h 3).trans rfl, (blk_cell h 4).trans rfl, (blk_cell h 5).trans rfl, (blk_cell h 6).trans rfl, (blk_cell h 7).trans rfl, (blk_cell h 8).trans rfl, (blk_cell h 9).trans rfl, (blk_cell h 10).trans rfl, (blk_cell h 11).trans rfl, (blk_cell h 12).trans rfl, (blk_cell h 13).trans rfl, (blk_cell h 14).trans rfl, (blk_cell h 15).trans rfl, (blk_cell h 16).trans rfl, (blk_cell h 17).trans rfl, (blk_cell h 18).trans rfl, (blk_cell h 19).trans rfl, (blk_cell h 20).trans rfl, (blk_cell h 21).trans rfl, (blk_cell h 22).trans rfl, (blk_cell h 23).trans rfl, (blk_cell h 24).trans rfl, (blk_cell h 25).trans rfl, (blk_cell h 26).trans rfl, (blk_cell h 27).trans rfl⟩
set_option maxHeartbeats 2000000 in
set_option maxRecDepth 100000 in
theorem one_nil (op : Int) (lab : ByteArray) (j p : Int) (A2 A8 A14 A17 A21 A25 A2' A8' A14' A17' A21' A25' : Option Addr) (c2 c8 c14 c17 c21 c25 c2' c8' c14' c17' c21' c25' : Nat) (w : World) : Calls Try.prog 14 #[.agg #[.int .u8 0, .int .i64 0, .slice A2 0 c2, .int .i64 0, .bool false, .bool false, .int .u8 0, .int .i64 0, .slice A8 0 c8, .int .i64 0, .bool false, .bool false, .bool false, .int .u8 op, .slice A14 0 c14, .string lab, .string ⟨#[]⟩, .slice A17 0 c17, .int .i64 0, .bool false, .bool false, .slice A21 0 c21, .int .i64 0, .bool false, .bool false, .slice A25 0 c25, .int .i64 j, .int .i64 p], .agg #[.int .u8 0, .int .i64 0, .slice A2' 0 c2', .int .i64 0, .bool false, .bool false, .int .u8 0, .int .i64 0, .slice A8' 0 c8', .int .i64 0, .bool false, .bool false, .bool false, .int .u8 op, .slice A14' 0 c14', .string lab, .string ⟨#[]⟩, .slice A17' 0 c17', .int .i64 0, .bool false, .bool false, .slice A21' 0 c21', .int .i64 0, .bool false, .bool false, .slice A25' 0 c25', .int .i64 j, .int .i64 p]] w fun e w' => e = .returned (.bool true) ∧ Below w.heap.size w w' := by
  have HB := Aside0.mk (below_alloc (below_alloc (Below.refl w.heap.size w) (Obj.cells (cmdV op lab j p A2 A8 A14 A17 A21 A25 c2 c8 c14 c17 c21 c25).toArray 32)) (Obj.cells (cmdV op lab j p A2' A8' A14' A17' A21' A25' c2' c8' c14' c17' c21' c25').toArray 32))
  have BA := Aside0.mk (blk_alloc (blk_new w (Obj.cells (cmdV op lab j p A2 A8 A14 A17 A21 A25 c2 c8 c14 c17 c21 c25).toArray 32)) (Obj.cells (cmdV op lab j p A2' A8' A14' A17' A21' A25' c2' c8' c14' c17' c21' c25').toArray 32))
  have BB : Aside0 (((w.alloc (Obj.cells (cmdV op lab j p A2 A8 A14 A17 A21 A25 c2 c8 c14 c17 c21 c25).toArray 32)).alloc (Obj.cells (cmdV op lab j p A2' A8' A14' A17' A21' A25' c2' c8' c14' c17' c21' c25').toArray 32)).heap[w.heap.size + 1]? = some (Obj.cells (cmdV op lab j p A2' A8' A14' A17' A21' A25' c2' c8' c14' c17' c21' c25').toArray 32)) := ⟨by have := blk_new (w.alloc (Obj.cells (cmdV op lab j p A2 A8 A14 A17 A21 A25 c2 c8 c14 c17 c21 c25).toArray 32)) (Obj.cells (cmdV op lab j p A2' A8' A14' A17' A21' A25' c2' c8' c14' c17' c21' c25').toArray 32); rwa [World.size_alloc] at this⟩
  go_enter Try.func14, Try.ntmps14
  go_wp2_with (first | (go_at_call 15; (refine (addr_nil _ _ _ _ _ _ _ _ _ _).mono ?_); rintro e w1 ⟨rfl, hB⟩; have HB1 := Aside0.mk (HB.out.trans (hB.mono HB.out.size)); have bA := blk_below BA.out hB; have bB := blk_below BB.out hB; clear hB HB BA BB; have HB := HB1; have BA := Aside0.mk bA; have BB := Aside0.mk bB; clear HB1 bA bB; obtain ⟨a0, a1, a2, a3, a4, a5, a6, a7, a8, a9, a10, a11, a12, a13, a14, a15, a16, a17, a18, a19, a20, a21, a22, a23, a24, a25, a26, a27⟩ := cmdV_cells BA.out; obtain ⟨b0, b1, b2, b3, b4, b5, b6, b7, b8, b9, b10, b11, b12, b13, b14, b15, b16, b17, b18, b19, b20, b21, b22, b23, b24, b25, b26, b27⟩ := cmdV_cells BB.out) | (go_at_call 16; (refine (same01_nil _ _ _ _ _).mono ?_); rintro e w1 ⟨rfl, hB⟩; have HB1 := Aside0.mk (HB.out.trans (hB.mono HB.out.size)); have bA := blk_below BA.out hB; have bB := blk_below BB.out hB; clear hB HB BA BB; have HB := HB1; have BA := Aside0.mk bA; have BB := Aside0.mk bB; clear HB1 bA bB; obtain ⟨a0, a1, a2, a3, a4, a5, a6, a7, a8, a9, a10, a11, a12, a13, a14, a15, a16, a17, a18, a19, a20, a21, a22, a23, a24, a25, a26, a27⟩ := cmdV_cells BA.out; obtain ⟨b0, b1, b2, b3, b4, b5, b6, b7, b8, b9, b10, b11, b12, b13, b14, b15, b16, b17, b18, b19, b20, b21, b22, b23, b24, b25, b26, b27⟩ := cmdV_cells BB.out) | (go_at_call 17; (refine (tree_nil _ _ _ _ _ _).mono ?_); rintro e w1 ⟨rfl, hB⟩; have HB1 := Aside0.mk (HB.out.trans (hB.mono HB.out.size)); have bA := blk_below BA.out hB; have bB := blk_below BB.out hB; clear hB HB BA BB; have HB := HB1; have BA := Aside0.mk bA; have BB := Aside0.mk bB; clear HB1 bA bB; obtain ⟨a0, a1, a2, a3, a4, a5, a6, a7, a8, a9, a10, a11, a12, a13, a14, a15, a16, a17, a18, a19, a20, a21, a22, a23, a24, a25, a26, a27⟩ := cmdV_cells BA.out; obtain ⟨b0, b1, b2, b3, b4, b5, b6, b7, b8, b9, b10, b11, b12, b13, b14, b15, b16, b17, b18, b19, b20, b21, b22, b23, b24, b25, b26, b27⟩ := cmdV_cells BB.out) | (go_at_call 18; (refine (parts_nil _ _ _ _ _).mono ?_); rintro e w1 ⟨rfl, hB⟩; have HB1 := Aside0.mk (HB.out.trans (hB.mono HB.out.size)); have bA := blk_below BA.out hB; have bB := blk_below BB.out hB; clear hB HB BA BB; have HB := HB1; have BA := Aside0.mk bA; have BB := Aside0.mk bB; clear HB1 bA bB; obtain ⟨a0, a1, a2, a3, a4, a5, a6, a7, a8, a9, a10, a11, a12, a13, a14, a15, a16, a17, a18, a19, a20, a21, a22, a23, a24, a25, a26, a27⟩ := cmdV_cells BA.out; obtain ⟨b0, b1, b2, b3, b4, b5, b6, b7, b8, b9, b10, b11, b12, b13, b14, b15, b16, b17, b18, b19, b20, b21, b22, b23, b24, b25, b26, b27⟩ := cmdV_cells BB.out) | (go_at_call 19; (refine (pairs_nil _ _ _ _ _).mono ?_); rintro e w1 ⟨rfl, hB⟩; have HB1 := Aside0.mk (HB.out.trans (hB.mono HB.out.size)); have bA := blk_below BA.out hB; have bB := blk_below BB.out hB; clear hB HB BA BB; have HB := HB1; have BA := Aside0.mk bA; have BB := Aside0.mk bB; clear HB1 bA bB; obtain ⟨a0, a1, a2, a3, a4, a5, a6, a7, a8, a9, a10, a11, a12, a13, a14, a15, a16, a17, a18, a19, a20, a21, a22, a23, a24, a25, a26, a27⟩ := cmdV_cells BA.out; obtain ⟨b0, b1, b2, b3, b4, b5, b6, b7, b8, b9, b10, b11, b12, b13, b14, b15, b16, b17, b18, b19, b20, b21, b22, b23, b24, b25, b26, b27⟩ := cmdV_cells BB.out))
  go_ret
  exact ⟨rfl, HB.out⟩
end Go.Proofs.Ytgennlcbmepchaa.PAll
