/- Commands that are put behind one another. -/
import Derived.Test.YtgennlcbmepchaaExtPure2
import Derived.Test.YtgennlcbmepchaaExtResolve
namespace Go.Proofs.Ytgennlcbmepchaa.PAll
open Go.RowKit Go.Maps Go.WideMaps Go.Proofs.YtgennlcbmepchaaW.PrintWords Go.Proofs.YtgennlcbmepchaaW.PrintLast Go.Proofs.YtgennlcbmepchaaW.PrintMore
/-- A command's cells. -/
@[reducible] def cmdC (op : Int) (lab : ByteArray) (p : Int) : List Value := [.int .u8 0, .int .i64 0, .slice none 0 0, .int .i64 0, .bool false, .bool false, .int .u8 0, .int .i64 0, .slice none 0 0, .int .i64 0, .bool false, .bool false, .bool false, .int .u8 op, .slice none 0 0, .string lab, .string ⟨#[]⟩, .slice none 0 0, .int .i64 0, .bool false, .bool false, .slice none 0 0, .int .i64 0, .bool false, .bool false, .slice none 0 0, .int .i64 0, .int .i64 p]
theorem FK_cmd (W : World) (ok : Nat → Prop) (op : Int) (lab : ByteArray) (p : Int) : Kd.FK k32 W ok (cmdL op lab p) (cmdC op lab p) :=
  k32_mkF W ok (cmdL op lab p) (A2 := none) (c2 := 0) (Nat.le_refl 0) (Kd.F_nil _ _ _) (A8 := none) (c8 := 0) (Nat.le_refl 0) (Kd.F_nil _ _ _) (A14 := none) (c14 := 0) (Nat.le_refl 0) (Kd.F_nil _ _ _) (A17 := none) (c17 := 0) (Nat.le_refl 0) (Kd.F_nil _ _ _) (A21 := none) (c21 := 0) (Nat.le_refl 0) (Kd.F_nil _ _ _) (A25 := none) (c25 := 0) (Nat.le_refl 0) (Kd.F_nil _ _ _)
theorem room32 {n : Nat} (h : n < 475464487686) : (n + 1) * 296 ≤ 140737488355328 := by omega
variable {o : Oper} {a : Act} {ops : Array Oper} {rest : List Oper} {Q : Exit → Act → World → Prop}
theorem append_cmd {w0 W : World} (base : Nat) (hgd : o.guard = none) (s x : Operand) (ho : o.op = .call { callee := .builtin .append, args := #[s, x], argTypes := #[22, 22] })
    (v : Value) (xs : List S32) (op : Int) (lab : ByteArray) (p : Int) (hs : a.eval s = v) (hx : a.eval x = .slice (some ⟨W.heap.size, 0, none⟩) 1 1)
    (HO : Kd.N k32 32 W base (fun _ => True) v xs) (HB : Below base w0 W) (hbase : base ≤ W.heap.size) (hl : xs.length < 475464487686)
    (h : ∀ v1 w1, Kd.N k32 32 w1 base (fun _ => True) v1 (xs ++ [cmdL op lab p]) → Below base w0 w1 → wpList Try.prog ops Q rest (a.put o.dst v1) w1) :
    wpList Try.prog ops Q (o :: rest) a (W.alloc (.cells (cmdC op lab p).toArray 32)) :=
  Kd.N_append k32 base hgd s x 22 32 _ 296 ho Try.underlying22 info32 rfl (by decide) (by omega) v xs (cmdL op lab p) (cmdC op lab p) (fun _ => True) (fun _ => False) hs hx (FK_cmd W _ op lab p) (fun _ hk => hk.elim) (fun _ _ => trivial) HO HB hbase (room32 hl) (fun v1 w1 hN hb _ _ => h v1 w1 hN hb)
end Go.Proofs.Ytgennlcbmepchaa.PAll
