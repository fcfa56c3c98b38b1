/- Written for this seat by a program of this session (wip/tools/pp.py): Lean functions with the same answers as the Go functions, and the proofs that they are. Lean checks it. -/
import Derived.Test.YtgennlcbmepchaaProg
import Derived.Below
import Derived.Deep.Draws
import Derived.Deep.AppendLies
import Derived.Maps.AppendAt
import Derived.OwnWalk
import Derived.Laws.BytesArg
import Derived.Laws.MakeOwn
import Derived.Laws.OwnMore
import Derived.Deep.OwnRows
import Derived.Tactics
import Derived.Lib.ConvBytes
import Derived.Laws.Slices
import Derived.WalkKit
import Derived.KernelRfl
import Derived.RowKit3
import Derived.Deep.LoopGhost
import Derived.Deep.QuietTactic
import Derived.BigQuiet
import Derived.WideLaws
import Derived.Deep.DeepCutAuto
import Derived.Deep.CutBlock
import Derived.Deep.RegionHeld3
import Derived.Laws.Rows
import Derived.Lib.AppendStr
import Derived.ArgAppend
import Derived.Laws.IdiomCopy
import Derived.OrdersHeld
import Derived.Laws.BitsLemmas
import Derived.RowKit
import Derived.Test.YtgennlcbmepchaaWWords
import Derived.Test.YtgennlcbmepchaaWLast
import Derived.Test.YtgennlcbmepchaaWTab
import Derived.Test.YtgennlcbmepchaaWFour
import Derived.Test.YtgennlcbmepchaaWQPut
import Derived.Test.YtgennlcbmepchaaWApart
import Derived.Test.YtgennlcbmepchaaWArr
import Derived.Test.YtgennlcbmepchaaWZeros
import Derived.Test.YtgennlcbmepchaaWFoot
import Derived.Test.YtgennlcbmepchaaWKept
import Derived.Test.YtgennlcbmepchaaWShare
import Derived.Test.YtgennlcbmepchaaWN
import Derived.Test.YtgennlcbmepchaaWFootNe
import Derived.Test.YtgennlcbmepchaaWAt
import Derived.Test.YtgennlcbmepchaaWEqStruct
import Derived.Test.YtgennlcbmepchaaWRepsOne
import Derived.Test.YtgennlcbmepchaaWInv
import Derived.Test.YtgennlcbmepchaaWInvWords
import Derived.Test.YtgennlcbmepchaaWGuard
import Derived.Test.YtgennlcbmepchaaWNEv
import Derived.Test.YtgennlcbmepchaaWMore
namespace Go.Proofs.Ytgennlcbmepchaa.PAll
open Go.RowKit Go.Proofs.YtgennlcbmepchaaW.PrintWords Go.Proofs.YtgennlcbmepchaaW.PrintLast Go.Proofs.YtgennlcbmepchaaW.PrintMore
attribute [local go_sem] max2_int min2_int max_two min_two max_three min_three max_four min_four   -- for this text's walks alone
set_option linter.unusedVariables false
set_option linter.unusedSimpArgs false



def errW : Option Int → Value
  | none => .nilIface
  | some c => .iface 0 (.int .i64 c)
theorem errW_none : errW none = .nilIface := rfl
theorem errW_some (c : Int) : errW (some c) = .iface 0 (.int .i64 c) := rfl

theorem info5 : (Try.prog.info? 5).map (fun i => (i.zero, i.size, i.bytes)) = some (some (.int .u8 0), 1, 1) := by kernel_rfl
theorem info9 : (Try.prog.info? 9).map (fun i => (i.zero, i.size, i.bytes)) = some (some (.string ⟨#[]⟩), 1, 16) := by kernel_rfl
theorem info32 : (Try.prog.info? 32).map (fun i => (i.zero, i.size, i.bytes)) = some (some (.agg #[(.int .u8 0), (.int .i64 0), (.slice none 0 0), (.int .i64 0), (.bool false), (.bool false), (.int .u8 0), (.int .i64 0), (.slice none 0 0), (.int .i64 0), (.bool false), (.bool false), (.bool false), (.int .u8 0), (.slice none 0 0), (.string ⟨#[]⟩), (.string ⟨#[]⟩), (.slice none 0 0), (.int .i64 0), (.bool false), (.bool false), (.slice none 0 0), (.int .i64 0), (.bool false), (.bool false), (.slice none 0 0), (.int .i64 0), (.int .i64 0)]), 28, 296) := by kernel_rfl
-- the values' own types
/-! #### struct type 75 -/
structure S75 where
  f0 : Int
  f1 : Int
def z75 : S75 := ⟨(0 : Int), (0 : Int)⟩
def k75 : Kd S75 := Kd.iso (Kd.pair (Kd.int .i32) (Kd.int .i32)) (fun x : S75 => (x.f0, x.f1))
theorem k75_open {w : World} {x : S75} {cs : List Value} (h : k75.K w x cs) : cs = [.int .i32 x.f0, .int .i32 x.f1] := by
  obtain ⟨_, _, rfl, rfl, rfl⟩ := h
  exact rfl
theorem k75_openM {w : World} {base : Nat} {ok : Nat → Prop} {x : S75} {cs : List Value} (h : k75.M w base ok x cs) : cs = [.int .i32 x.f0, .int .i32 x.f1] := by
  obtain ⟨_, _, rfl, rfl, rfl⟩ := h
  exact rfl
theorem k75_mk (w : World) (x : S75)  : k75.K w x [.int .i32 x.f0, .int .i32 x.f1] := ⟨[.int .i32 x.f0], [.int .i32 x.f1], rfl, rfl, rfl⟩
theorem k75_mkM (w : World) (base : Nat) (ok : Nat → Prop) (x : S75)  : k75.M w base ok x [.int .i32 x.f0, .int .i32 x.f1] := ⟨[.int .i32 x.f0], [.int .i32 x.f1], rfl, rfl, rfl⟩
theorem k75_mkF (W : World) (ok : Nat → Prop) (x : S75) : Kd.FK k75 W ok x [.int .i32 x.f0, .int .i32 x.f1] := fun W2 _ => k75_mk W2 x
def rd_T75 (xs : List S75) (i : Int) : S75 := xs.getD i.toNat z75
theorem at_T75 {w : World} {A : Option Addr} {n : Nat} {xs : List S75} (h : Kd.C k75 w A n xs) (i : Int) (h0 : 0 ≤ i) (h1 : i < n) : ∃ ad , A = some ad ∧ w.cell? (ad.add (i.toNat * 2)) = some (.int .i32 (rd_T75 xs i).f0) ∧ w.cell? ⟨(ad.add (i.toNat * 2)).block, (ad.add (i.toNat * 2)).off + 1, none⟩ = some (.int .i32 (rd_T75 xs i).f1) := by
  obtain ⟨ad, c, e, _, hK, hc0⟩ := Kd.C_get h z75 i h0 h1
  have hc : ∀ j u, c[j]? = some u → w.cell? (ad.add (i.toNat * 2 + j)) = some u := hc0
  obtain rfl := k75_open hK
  exact ⟨ad, e, hc 0 _ rfl, by rw [← add_field _ _ 1 (by omega)]; exact hc 1 _ rfl⟩

def rd_L5 (xs : List (List S75)) (i : Int) : (List S75) := xs.getD i.toNat ([] : List S75)
theorem at_L5 {w : World} {A : Option Addr} {n : Nat} {xs : List (List S75)} (h : Kd.C (Kd.slice 75 k75) w A n xs) (i : Int) (h0 : 0 ≤ i) (h1 : i < n) : ∃ ad A0 c0, A = some ad ∧ w.cell? (ad.add i.toNat) = some (.slice A0 (rd_L5 xs i).length c0) ∧ (rd_L5 xs i).length ≤ c0 ∧ k75.C w A0 (rd_L5 xs i).length (rd_L5 xs i) := by
  obtain ⟨ad, c, e, _, hK, hc0⟩ := Kd.C_get h ([] : List S75) i h0 h1
  have hc : ∀ j u, c[j]? = some u → w.cell? (ad.add (i.toNat * 1 + j)) = some u := hc0
  obtain ⟨A0, c0, rfl, l0, g0⟩ := hK
  exact ⟨ad, A0, c0, e, by have hq := hc 0 _ rfl; rwa [Nat.mul_one, Nat.add_zero] at hq, l0, g0⟩

def rd_L6 (xs : List (List Int)) (i : Int) : (List Int) := xs.getD i.toNat ([] : List Int)
theorem at_L6 {w : World} {A : Option Addr} {n : Nat} {xs : List (List Int)} (h : Kd.C (Kd.slice 62 (Kd.int .i32)) w A n xs) (i : Int) (h0 : 0 ≤ i) (h1 : i < n) : ∃ ad A0 c0, A = some ad ∧ w.cell? (ad.add i.toNat) = some (.slice A0 (rd_L6 xs i).length c0) ∧ (rd_L6 xs i).length ≤ c0 ∧ (Kd.int .i32).C w A0 (rd_L6 xs i).length (rd_L6 xs i) := by
  obtain ⟨ad, c, e, _, hK, hc0⟩ := Kd.C_get h ([] : List Int) i h0 h1
  have hc : ∀ j u, c[j]? = some u → w.cell? (ad.add (i.toNat * 1 + j)) = some u := hc0
  obtain ⟨A0, c0, rfl, l0, g0⟩ := hK
  exact ⟨ad, A0, c0, e, by have hq := hc 0 _ rfl; rwa [Nat.mul_one, Nat.add_zero] at hq, l0, g0⟩

def rd_L7 (xs : List (List (List Int))) (i : Int) : (List (List Int)) := xs.getD i.toNat ([] : List (List Int))
theorem at_L7 {w : World} {A : Option Addr} {n : Nat} {xs : List (List (List Int))} (h : Kd.C (Kd.slice 28 (Kd.slice 62 (Kd.int .i32))) w A n xs) (i : Int) (h0 : 0 ≤ i) (h1 : i < n) : ∃ ad A0 c0, A = some ad ∧ w.cell? (ad.add i.toNat) = some (.slice A0 (rd_L7 xs i).length c0) ∧ (rd_L7 xs i).length ≤ c0 ∧ (Kd.slice 62 (Kd.int .i32)).C w A0 (rd_L7 xs i).length (rd_L7 xs i) := by
  obtain ⟨ad, c, e, _, hK, hc0⟩ := Kd.C_get h ([] : List (List Int)) i h0 h1
  have hc : ∀ j u, c[j]? = some u → w.cell? (ad.add (i.toNat * 1 + j)) = some u := hc0
  obtain ⟨A0, c0, rfl, l0, g0⟩ := hK
  exact ⟨ad, A0, c0, e, by have hq := hc 0 _ rfl; rwa [Nat.mul_one, Nat.add_zero] at hq, l0, g0⟩

/-! #### struct type 66 -/
structure S66 where
  f0 : Bool
  f1 : (List S75)
  f2 : (List (List Int))
def z66 : S66 := ⟨false, ([] : List S75), ([] : List (List Int))⟩
def k66 : Kd S66 := Kd.iso (Kd.pair Kd.bool (Kd.pair (Kd.slice 75 k75) (Kd.slice 28 (Kd.slice 62 (Kd.int .i32))))) (fun x : S66 => (x.f0, x.f1, x.f2))
theorem k66_open {w : World} {x : S66} {cs : List Value} (h : k66.K w x cs) : ∃ A1 c1 A2 c2, cs = [.bool x.f0, .slice A1 x.f1.length c1, .slice A2 x.f2.length c2] ∧ x.f1.length ≤ c1 ∧ k75.C w A1 x.f1.length x.f1 ∧ x.f2.length ≤ c2 ∧ (Kd.slice 62 (Kd.int .i32)).C w A2 x.f2.length x.f2 := by
  obtain ⟨_, _, rfl, rfl, ⟨_, _, rfl, ⟨A1, c1, rfl, l1, g1⟩, ⟨A2, c2, rfl, l2, g2⟩⟩⟩ := h
  exact ⟨A1, c1, A2, c2, rfl, l1, g1, l2, g2⟩
theorem k66_openM {w : World} {base : Nat} {ok : Nat → Prop} {x : S66} {cs : List Value} (h : k66.M w base ok x cs) : ∃ v1 v2, cs = [.bool x.f0, v1, v2] ∧ k75.R 75 w base ok v1 x.f1 ∧ (Kd.slice 62 (Kd.int .i32)).R 28 w base ok v2 x.f2 := by
  obtain ⟨_, _, rfl, rfl, ⟨_, _, rfl, ⟨v1, rfl, g1⟩, ⟨v2, rfl, g2⟩⟩⟩ := h
  exact ⟨v1, v2, rfl, g1, g2⟩
theorem k66_mk (w : World) (x : S66) {A1 : Option Addr} {c1 : Nat} (l1 : x.f1.length ≤ c1) (g1 : k75.C w A1 x.f1.length x.f1) {A2 : Option Addr} {c2 : Nat} (l2 : x.f2.length ≤ c2) (g2 : (Kd.slice 62 (Kd.int .i32)).C w A2 x.f2.length x.f2) : k66.K w x [.bool x.f0, .slice A1 x.f1.length c1, .slice A2 x.f2.length c2] := ⟨[.bool x.f0], [.slice A1 x.f1.length c1, .slice A2 x.f2.length c2], rfl, rfl, ⟨[.slice A1 x.f1.length c1], [.slice A2 x.f2.length c2], rfl, ⟨A1, c1, rfl, l1, g1⟩, ⟨A2, c2, rfl, l2, g2⟩⟩⟩
theorem k66_mkM (w : World) (base : Nat) (ok : Nat → Prop) (x : S66) {v1 : Value} (g1 : k75.R 75 w base ok v1 x.f1) {v2 : Value} (g2 : (Kd.slice 62 (Kd.int .i32)).R 28 w base ok v2 x.f2) : k66.M w base ok x [.bool x.f0, v1, v2] := ⟨[.bool x.f0], [v1, v2], rfl, rfl, ⟨[v1], [v2], rfl, ⟨v1, rfl, g1⟩, ⟨v2, rfl, g2⟩⟩⟩
theorem k66_openF {W : World} {ok : Nat → Prop} {x : S66} {cs : List Value} (h : Kd.FK k66 W ok x cs) : ∃ A1 c1 A2 c2, cs = [.bool x.f0, .slice A1 x.f1.length c1, .slice A2 x.f2.length c2] ∧ x.f1.length ≤ c1 ∧ Kd.F k75 W ok A1 x.f1.length x.f1 ∧ x.f2.length ≤ c2 ∧ Kd.F (Kd.slice 62 (Kd.int .i32)) W ok A2 x.f2.length x.f2 := by
  obtain ⟨A1, c1, A2, c2, rfl, l1, _, l2, _⟩ := k66_open (Kd.FK_now h)
  exact ⟨A1, c1, A2, c2, rfl, l1, (fun W' hW => by obtain ⟨A1_, c1_, A2_, c2_, he, l1_, g1_, l2_, g2_⟩ := k66_open (h W' hW); injection (Option.some.inj (show some (Value.slice A1 x.f1.length c1) = some (Value.slice A1_ x.f1.length c1_) from congrArg (fun l => l[1]?) he)) with ha_ _ _; rw [ha_]; exact g1_), l2, (fun W' hW => by obtain ⟨A1_, c1_, A2_, c2_, he, l1_, g1_, l2_, g2_⟩ := k66_open (h W' hW); injection (Option.some.inj (show some (Value.slice A2 x.f2.length c2) = some (Value.slice A2_ x.f2.length c2_) from congrArg (fun l => l[2]?) he)) with ha_ _ _; rw [ha_]; exact g2_)⟩
theorem k66_mkF (W : World) (ok : Nat → Prop) (x : S66) {A1 : Option Addr} {c1 : Nat} (l1 : x.f1.length ≤ c1) (g1 : Kd.F k75 W ok A1 x.f1.length x.f1) {A2 : Option Addr} {c2 : Nat} (l2 : x.f2.length ≤ c2) (g2 : Kd.F (Kd.slice 62 (Kd.int .i32)) W ok A2 x.f2.length x.f2) : Kd.FK k66 W ok x [.bool x.f0, .slice A1 x.f1.length c1, .slice A2 x.f2.length c2] := fun W2 hW => k66_mk W2 x l1 (g1 W2 hW) l2 (g2 W2 hW)
def rd_T66 (xs : List S66) (i : Int) : S66 := xs.getD i.toNat z66
theorem at_T66 {w : World} {A : Option Addr} {n : Nat} {xs : List S66} (h : Kd.C k66 w A n xs) (i : Int) (h0 : 0 ≤ i) (h1 : i < n) : ∃ ad A1 c1 A2 c2, A = some ad ∧ w.cell? (ad.add (i.toNat * 3)) = some (.bool (rd_T66 xs i).f0) ∧ w.cell? ⟨(ad.add (i.toNat * 3)).block, (ad.add (i.toNat * 3)).off + 1, none⟩ = some (.slice A1 (rd_T66 xs i).f1.length c1) ∧ w.cell? ⟨(ad.add (i.toNat * 3)).block, (ad.add (i.toNat * 3)).off + 2, none⟩ = some (.slice A2 (rd_T66 xs i).f2.length c2) ∧ (rd_T66 xs i).f1.length ≤ c1 ∧ k75.C w A1 (rd_T66 xs i).f1.length (rd_T66 xs i).f1 ∧ (rd_T66 xs i).f2.length ≤ c2 ∧ (Kd.slice 62 (Kd.int .i32)).C w A2 (rd_T66 xs i).f2.length (rd_T66 xs i).f2 := by
  obtain ⟨ad, c, e, _, hK, hc0⟩ := Kd.C_get h z66 i h0 h1
  have hc : ∀ j u, c[j]? = some u → w.cell? (ad.add (i.toNat * 3 + j)) = some u := hc0
  obtain ⟨A1, c1, A2, c2, rfl, l1, g1, l2, g2⟩ := k66_open hK
  exact ⟨ad, A1, c1, A2, c2, e, hc 0 _ rfl, by rw [← add_field _ _ 1 (by omega)]; exact hc 1 _ rfl, by rw [← add_field _ _ 2 (by omega)]; exact hc 2 _ rfl, l1, g1, l2, g2⟩

def rd_L9 (xs : List (List Int)) (i : Int) : (List Int) := xs.getD i.toNat ([] : List Int)
theorem at_L9 {w : World} {A : Option Addr} {n : Nat} {xs : List (List Int)} (h : Kd.C (Kd.slice 3 (Kd.int .i64)) w A n xs) (i : Int) (h0 : 0 ≤ i) (h1 : i < n) : ∃ ad A0 c0, A = some ad ∧ w.cell? (ad.add i.toNat) = some (.slice A0 (rd_L9 xs i).length c0) ∧ (rd_L9 xs i).length ≤ c0 ∧ (Kd.int .i64).C w A0 (rd_L9 xs i).length (rd_L9 xs i) := by
  obtain ⟨ad, c, e, _, hK, hc0⟩ := Kd.C_get h ([] : List Int) i h0 h1
  have hc : ∀ j u, c[j]? = some u → w.cell? (ad.add (i.toNat * 1 + j)) = some u := hc0
  obtain ⟨A0, c0, rfl, l0, g0⟩ := hK
  exact ⟨ad, A0, c0, e, by have hq := hc 0 _ rfl; rwa [Nat.mul_one, Nat.add_zero] at hq, l0, g0⟩

/-! #### struct type 68 -/
structure S68 where
  f0 : Int
  f1 : Int
  f2 : S66
  f3 : Int
  f4 : Int
  f5 : Int
  f6 : (List Int)
def z68 : S68 := ⟨(0 : Int), (0 : Int), z66, (0 : Int), (0 : Int), (0 : Int), ([] : List Int)⟩
def k68 : Kd S68 := Kd.iso (Kd.pair (Kd.int .u8) (Kd.pair (Kd.int .i32) (Kd.pair k66 (Kd.pair (Kd.int .i64) (Kd.pair (Kd.int .i64) (Kd.pair (Kd.int .i64) (Kd.slice 3 (Kd.int .i64)))))))) (fun x : S68 => (x.f0, x.f1, x.f2, x.f3, x.f4, x.f5, x.f6))
theorem k68_open {w : World} {x : S68} {cs : List Value} (h : k68.K w x cs) : ∃ A3 c3 A4 c4 A8 c8, cs = [.int .u8 x.f0, .int .i32 x.f1, .bool x.f2.f0, .slice A3 x.f2.f1.length c3, .slice A4 x.f2.f2.length c4, .int .i64 x.f3, .int .i64 x.f4, .int .i64 x.f5, .slice A8 x.f6.length c8] ∧ x.f2.f1.length ≤ c3 ∧ k75.C w A3 x.f2.f1.length x.f2.f1 ∧ x.f2.f2.length ≤ c4 ∧ (Kd.slice 62 (Kd.int .i32)).C w A4 x.f2.f2.length x.f2.f2 ∧ x.f6.length ≤ c8 ∧ (Kd.int .i64).C w A8 x.f6.length x.f6 := by
  obtain ⟨_, _, rfl, rfl, ⟨_, _, rfl, rfl, ⟨_, _, rfl, s2, ⟨_, _, rfl, rfl, ⟨_, _, rfl, rfl, ⟨_, _, rfl, rfl, ⟨A8, c8, rfl, l8, g8⟩⟩⟩⟩⟩⟩⟩ := h
  obtain ⟨A3, c3, A4, c4, rfl, l3, g3, l4, g4⟩ := k66_open s2
  exact ⟨A3, c3, A4, c4, A8, c8, rfl, l3, g3, l4, g4, l8, g8⟩
theorem k68_openM {w : World} {base : Nat} {ok : Nat → Prop} {x : S68} {cs : List Value} (h : k68.M w base ok x cs) : ∃ v3 v4 v8, cs = [.int .u8 x.f0, .int .i32 x.f1, .bool x.f2.f0, v3, v4, .int .i64 x.f3, .int .i64 x.f4, .int .i64 x.f5, v8] ∧ k75.R 75 w base ok v3 x.f2.f1 ∧ (Kd.slice 62 (Kd.int .i32)).R 28 w base ok v4 x.f2.f2 ∧ (Kd.int .i64).R 3 w base ok v8 x.f6 := by
  obtain ⟨_, _, rfl, rfl, ⟨_, _, rfl, rfl, ⟨_, _, rfl, s2, ⟨_, _, rfl, rfl, ⟨_, _, rfl, rfl, ⟨_, _, rfl, rfl, ⟨v8, rfl, g8⟩⟩⟩⟩⟩⟩⟩ := h
  obtain ⟨v3, v4, rfl, g3, g4⟩ := k66_openM s2
  exact ⟨v3, v4, v8, rfl, g3, g4, g8⟩
theorem k68_mk (w : World) (x : S68) {A3 : Option Addr} {c3 : Nat} (l3 : x.f2.f1.length ≤ c3) (g3 : k75.C w A3 x.f2.f1.length x.f2.f1) {A4 : Option Addr} {c4 : Nat} (l4 : x.f2.f2.length ≤ c4) (g4 : (Kd.slice 62 (Kd.int .i32)).C w A4 x.f2.f2.length x.f2.f2) {A8 : Option Addr} {c8 : Nat} (l8 : x.f6.length ≤ c8) (g8 : (Kd.int .i64).C w A8 x.f6.length x.f6) : k68.K w x [.int .u8 x.f0, .int .i32 x.f1, .bool x.f2.f0, .slice A3 x.f2.f1.length c3, .slice A4 x.f2.f2.length c4, .int .i64 x.f3, .int .i64 x.f4, .int .i64 x.f5, .slice A8 x.f6.length c8] := ⟨[.int .u8 x.f0], [.int .i32 x.f1, .bool x.f2.f0, .slice A3 x.f2.f1.length c3, .slice A4 x.f2.f2.length c4, .int .i64 x.f3, .int .i64 x.f4, .int .i64 x.f5, .slice A8 x.f6.length c8], rfl, rfl, ⟨[.int .i32 x.f1], [.bool x.f2.f0, .slice A3 x.f2.f1.length c3, .slice A4 x.f2.f2.length c4, .int .i64 x.f3, .int .i64 x.f4, .int .i64 x.f5, .slice A8 x.f6.length c8], rfl, rfl, ⟨[.bool x.f2.f0, .slice A3 x.f2.f1.length c3, .slice A4 x.f2.f2.length c4], [.int .i64 x.f3, .int .i64 x.f4, .int .i64 x.f5, .slice A8 x.f6.length c8], rfl, (k66_mk w x.f2 l3 g3 l4 g4), ⟨[.int .i64 x.f3], [.int .i64 x.f4, .int .i64 x.f5, .slice A8 x.f6.length c8], rfl, rfl, ⟨[.int .i64 x.f4], [.int .i64 x.f5, .slice A8 x.f6.length c8], rfl, rfl, ⟨[.int .i64 x.f5], [.slice A8 x.f6.length c8], rfl, rfl, ⟨A8, c8, rfl, l8, g8⟩⟩⟩⟩⟩⟩⟩
theorem k68_mkM (w : World) (base : Nat) (ok : Nat → Prop) (x : S68) {v3 : Value} (g3 : k75.R 75 w base ok v3 x.f2.f1) {v4 : Value} (g4 : (Kd.slice 62 (Kd.int .i32)).R 28 w base ok v4 x.f2.f2) {v8 : Value} (g8 : (Kd.int .i64).R 3 w base ok v8 x.f6) : k68.M w base ok x [.int .u8 x.f0, .int .i32 x.f1, .bool x.f2.f0, v3, v4, .int .i64 x.f3, .int .i64 x.f4, .int .i64 x.f5, v8] := ⟨[.int .u8 x.f0], [.int .i32 x.f1, .bool x.f2.f0, v3, v4, .int .i64 x.f3, .int .i64 x.f4, .int .i64 x.f5, v8], rfl, rfl, ⟨[.int .i32 x.f1], [.bool x.f2.f0, v3, v4, .int .i64 x.f3, .int .i64 x.f4, .int .i64 x.f5, v8], rfl, rfl, ⟨[.bool x.f2.f0, v3, v4], [.int .i64 x.f3, .int .i64 x.f4, .int .i64 x.f5, v8], rfl, (k66_mkM w base ok x.f2 g3 g4), ⟨[.int .i64 x.f3], [.int .i64 x.f4, .int .i64 x.f5, v8], rfl, rfl, ⟨[.int .i64 x.f4], [.int .i64 x.f5, v8], rfl, rfl, ⟨[.int .i64 x.f5], [v8], rfl, rfl, ⟨v8, rfl, g8⟩⟩⟩⟩⟩⟩⟩
theorem k68_openF {W : World} {ok : Nat → Prop} {x : S68} {cs : List Value} (h : Kd.FK k68 W ok x cs) : ∃ A3 c3 A4 c4 A8 c8, cs = [.int .u8 x.f0, .int .i32 x.f1, .bool x.f2.f0, .slice A3 x.f2.f1.length c3, .slice A4 x.f2.f2.length c4, .int .i64 x.f3, .int .i64 x.f4, .int .i64 x.f5, .slice A8 x.f6.length c8] ∧ x.f2.f1.length ≤ c3 ∧ Kd.F k75 W ok A3 x.f2.f1.length x.f2.f1 ∧ x.f2.f2.length ≤ c4 ∧ Kd.F (Kd.slice 62 (Kd.int .i32)) W ok A4 x.f2.f2.length x.f2.f2 ∧ x.f6.length ≤ c8 ∧ Kd.F (Kd.int .i64) W ok A8 x.f6.length x.f6 := by
  obtain ⟨A3, c3, A4, c4, A8, c8, rfl, l3, _, l4, _, l8, _⟩ := k68_open (Kd.FK_now h)
  exact ⟨A3, c3, A4, c4, A8, c8, rfl, l3, (fun W' hW => by obtain ⟨A3_, c3_, A4_, c4_, A8_, c8_, he, l3_, g3_, l4_, g4_, l8_, g8_⟩ := k68_open (h W' hW); injection (Option.some.inj (show some (Value.slice A3 x.f2.f1.length c3) = some (Value.slice A3_ x.f2.f1.length c3_) from congrArg (fun l => l[3]?) he)) with ha_ _ _; rw [ha_]; exact g3_), l4, (fun W' hW => by obtain ⟨A3_, c3_, A4_, c4_, A8_, c8_, he, l3_, g3_, l4_, g4_, l8_, g8_⟩ := k68_open (h W' hW); injection (Option.some.inj (show some (Value.slice A4 x.f2.f2.length c4) = some (Value.slice A4_ x.f2.f2.length c4_) from congrArg (fun l => l[4]?) he)) with ha_ _ _; rw [ha_]; exact g4_), l8, (fun W' hW => by obtain ⟨A3_, c3_, A4_, c4_, A8_, c8_, he, l3_, g3_, l4_, g4_, l8_, g8_⟩ := k68_open (h W' hW); injection (Option.some.inj (show some (Value.slice A8 x.f6.length c8) = some (Value.slice A8_ x.f6.length c8_) from congrArg (fun l => l[8]?) he)) with ha_ _ _; rw [ha_]; exact g8_)⟩
theorem k68_mkF (W : World) (ok : Nat → Prop) (x : S68) {A3 : Option Addr} {c3 : Nat} (l3 : x.f2.f1.length ≤ c3) (g3 : Kd.F k75 W ok A3 x.f2.f1.length x.f2.f1) {A4 : Option Addr} {c4 : Nat} (l4 : x.f2.f2.length ≤ c4) (g4 : Kd.F (Kd.slice 62 (Kd.int .i32)) W ok A4 x.f2.f2.length x.f2.f2) {A8 : Option Addr} {c8 : Nat} (l8 : x.f6.length ≤ c8) (g8 : Kd.F (Kd.int .i64) W ok A8 x.f6.length x.f6) : Kd.FK k68 W ok x [.int .u8 x.f0, .int .i32 x.f1, .bool x.f2.f0, .slice A3 x.f2.f1.length c3, .slice A4 x.f2.f2.length c4, .int .i64 x.f3, .int .i64 x.f4, .int .i64 x.f5, .slice A8 x.f6.length c8] := fun W2 hW => k68_mk W2 x l3 (g3 W2 hW) l4 (g4 W2 hW) l8 (g8 W2 hW)
def rd_T68 (xs : List S68) (i : Int) : S68 := xs.getD i.toNat z68
theorem at_T68 {w : World} {A : Option Addr} {n : Nat} {xs : List S68} (h : Kd.C k68 w A n xs) (i : Int) (h0 : 0 ≤ i) (h1 : i < n) : ∃ ad A3 c3 A4 c4 A8 c8, A = some ad ∧ w.cell? (ad.add (i.toNat * 9)) = some (.int .u8 (rd_T68 xs i).f0) ∧ w.cell? ⟨(ad.add (i.toNat * 9)).block, (ad.add (i.toNat * 9)).off + 1, none⟩ = some (.int .i32 (rd_T68 xs i).f1) ∧ w.cell? ⟨(ad.add (i.toNat * 9)).block, (ad.add (i.toNat * 9)).off + 2, none⟩ = some (.bool (rd_T68 xs i).f2.f0) ∧ w.cell? ⟨(ad.add (i.toNat * 9)).block, (ad.add (i.toNat * 9)).off + 3, none⟩ = some (.slice A3 (rd_T68 xs i).f2.f1.length c3) ∧ w.cell? ⟨(ad.add (i.toNat * 9)).block, (ad.add (i.toNat * 9)).off + 4, none⟩ = some (.slice A4 (rd_T68 xs i).f2.f2.length c4) ∧ w.cell? ⟨(ad.add (i.toNat * 9)).block, (ad.add (i.toNat * 9)).off + 5, none⟩ = some (.int .i64 (rd_T68 xs i).f3) ∧ w.cell? ⟨(ad.add (i.toNat * 9)).block, (ad.add (i.toNat * 9)).off + 6, none⟩ = some (.int .i64 (rd_T68 xs i).f4) ∧ w.cell? ⟨(ad.add (i.toNat * 9)).block, (ad.add (i.toNat * 9)).off + 7, none⟩ = some (.int .i64 (rd_T68 xs i).f5) ∧ w.cell? ⟨(ad.add (i.toNat * 9)).block, (ad.add (i.toNat * 9)).off + 8, none⟩ = some (.slice A8 (rd_T68 xs i).f6.length c8) ∧ (rd_T68 xs i).f2.f1.length ≤ c3 ∧ k75.C w A3 (rd_T68 xs i).f2.f1.length (rd_T68 xs i).f2.f1 ∧ (rd_T68 xs i).f2.f2.length ≤ c4 ∧ (Kd.slice 62 (Kd.int .i32)).C w A4 (rd_T68 xs i).f2.f2.length (rd_T68 xs i).f2.f2 ∧ (rd_T68 xs i).f6.length ≤ c8 ∧ (Kd.int .i64).C w A8 (rd_T68 xs i).f6.length (rd_T68 xs i).f6 := by
  obtain ⟨ad, c, e, _, hK, hc0⟩ := Kd.C_get h z68 i h0 h1
  have hc : ∀ j u, c[j]? = some u → w.cell? (ad.add (i.toNat * 9 + j)) = some u := hc0
  obtain ⟨A3, c3, A4, c4, A8, c8, rfl, l3, g3, l4, g4, l8, g8⟩ := k68_open hK
  exact ⟨ad, A3, c3, A4, c4, A8, c8, e, hc 0 _ rfl, by rw [← add_field _ _ 1 (by omega)]; exact hc 1 _ rfl, by rw [← add_field _ _ 2 (by omega)]; exact hc 2 _ rfl, by rw [← add_field _ _ 3 (by omega)]; exact hc 3 _ rfl, by rw [← add_field _ _ 4 (by omega)]; exact hc 4 _ rfl, by rw [← add_field _ _ 5 (by omega)]; exact hc 5 _ rfl, by rw [← add_field _ _ 6 (by omega)]; exact hc 6 _ rfl, by rw [← add_field _ _ 7 (by omega)]; exact hc 7 _ rfl, by rw [← add_field _ _ 8 (by omega)]; exact hc 8 _ rfl, l3, g3, l4, g4, l8, g8⟩

def rd_L11 (xs : List (List S68)) (i : Int) : (List S68) := xs.getD i.toNat ([] : List S68)
theorem at_L11 {w : World} {A : Option Addr} {n : Nat} {xs : List (List S68)} (h : Kd.C (Kd.slice 68 k68) w A n xs) (i : Int) (h0 : 0 ≤ i) (h1 : i < n) : ∃ ad A0 c0, A = some ad ∧ w.cell? (ad.add i.toNat) = some (.slice A0 (rd_L11 xs i).length c0) ∧ (rd_L11 xs i).length ≤ c0 ∧ k68.C w A0 (rd_L11 xs i).length (rd_L11 xs i) := by
  obtain ⟨ad, c, e, _, hK, hc0⟩ := Kd.C_get h ([] : List S68) i h0 h1
  have hc : ∀ j u, c[j]? = some u → w.cell? (ad.add (i.toNat * 1 + j)) = some u := hc0
  obtain ⟨A0, c0, rfl, l0, g0⟩ := hK
  exact ⟨ad, A0, c0, e, by have hq := hc 0 _ rfl; rwa [Nat.mul_one, Nat.add_zero] at hq, l0, g0⟩

/-! #### struct type 25 -/
structure S25 where
  f0 : (List S68)
  f1 : Int
def z25 : S25 := ⟨([] : List S68), (0 : Int)⟩
def k25 : Kd S25 := Kd.iso (Kd.pair (Kd.slice 68 k68) (Kd.int .i64)) (fun x : S25 => (x.f0, x.f1))
theorem k25_open {w : World} {x : S25} {cs : List Value} (h : k25.K w x cs) : ∃ A0 c0, cs = [.slice A0 x.f0.length c0, .int .i64 x.f1] ∧ x.f0.length ≤ c0 ∧ k68.C w A0 x.f0.length x.f0 := by
  obtain ⟨_, _, rfl, ⟨A0, c0, rfl, l0, g0⟩, rfl⟩ := h
  exact ⟨A0, c0, rfl, l0, g0⟩
theorem k25_openM {w : World} {base : Nat} {ok : Nat → Prop} {x : S25} {cs : List Value} (h : k25.M w base ok x cs) : ∃ v0, cs = [v0, .int .i64 x.f1] ∧ k68.R 68 w base ok v0 x.f0 := by
  obtain ⟨_, _, rfl, ⟨v0, rfl, g0⟩, rfl⟩ := h
  exact ⟨v0, rfl, g0⟩
theorem k25_mk (w : World) (x : S25) {A0 : Option Addr} {c0 : Nat} (l0 : x.f0.length ≤ c0) (g0 : k68.C w A0 x.f0.length x.f0) : k25.K w x [.slice A0 x.f0.length c0, .int .i64 x.f1] := ⟨[.slice A0 x.f0.length c0], [.int .i64 x.f1], rfl, ⟨A0, c0, rfl, l0, g0⟩, rfl⟩
theorem k25_mkM (w : World) (base : Nat) (ok : Nat → Prop) (x : S25) {v0 : Value} (g0 : k68.R 68 w base ok v0 x.f0) : k25.M w base ok x [v0, .int .i64 x.f1] := ⟨[v0], [.int .i64 x.f1], rfl, ⟨v0, rfl, g0⟩, rfl⟩
theorem k25_openF {W : World} {ok : Nat → Prop} {x : S25} {cs : List Value} (h : Kd.FK k25 W ok x cs) : ∃ A0 c0, cs = [.slice A0 x.f0.length c0, .int .i64 x.f1] ∧ x.f0.length ≤ c0 ∧ Kd.F k68 W ok A0 x.f0.length x.f0 := by
  obtain ⟨A0, c0, rfl, l0, _⟩ := k25_open (Kd.FK_now h)
  exact ⟨A0, c0, rfl, l0, (fun W' hW => by obtain ⟨A0_, c0_, he, l0_, g0_⟩ := k25_open (h W' hW); injection (Option.some.inj (show some (Value.slice A0 x.f0.length c0) = some (Value.slice A0_ x.f0.length c0_) from congrArg (fun l => l[0]?) he)) with ha_ _ _; rw [ha_]; exact g0_)⟩
theorem k25_mkF (W : World) (ok : Nat → Prop) (x : S25) {A0 : Option Addr} {c0 : Nat} (l0 : x.f0.length ≤ c0) (g0 : Kd.F k68 W ok A0 x.f0.length x.f0) : Kd.FK k25 W ok x [.slice A0 x.f0.length c0, .int .i64 x.f1] := fun W2 hW => k25_mk W2 x l0 (g0 W2 hW)
def rd_T25 (xs : List S25) (i : Int) : S25 := xs.getD i.toNat z25
theorem at_T25 {w : World} {A : Option Addr} {n : Nat} {xs : List S25} (h : Kd.C k25 w A n xs) (i : Int) (h0 : 0 ≤ i) (h1 : i < n) : ∃ ad A0 c0, A = some ad ∧ w.cell? (ad.add (i.toNat * 2)) = some (.slice A0 (rd_T25 xs i).f0.length c0) ∧ w.cell? ⟨(ad.add (i.toNat * 2)).block, (ad.add (i.toNat * 2)).off + 1, none⟩ = some (.int .i64 (rd_T25 xs i).f1) ∧ (rd_T25 xs i).f0.length ≤ c0 ∧ k68.C w A0 (rd_T25 xs i).f0.length (rd_T25 xs i).f0 := by
  obtain ⟨ad, c, e, _, hK, hc0⟩ := Kd.C_get h z25 i h0 h1
  have hc : ∀ j u, c[j]? = some u → w.cell? (ad.add (i.toNat * 2 + j)) = some u := hc0
  obtain ⟨A0, c0, rfl, l0, g0⟩ := k25_open hK
  exact ⟨ad, A0, c0, e, hc 0 _ rfl, by rw [← add_field _ _ 1 (by omega)]; exact hc 1 _ rfl, l0, g0⟩

/-! #### struct type 27 -/
structure S27 where
  f0 : Int
  f1 : Int
  f2 : S25
  f3 : Bool
  f4 : Bool
def z27 : S27 := ⟨(0 : Int), (0 : Int), z25, false, false⟩
def k27 : Kd S27 := Kd.iso (Kd.pair (Kd.int .u8) (Kd.pair (Kd.int .i64) (Kd.pair k25 (Kd.pair Kd.bool Kd.bool)))) (fun x : S27 => (x.f0, x.f1, x.f2, x.f3, x.f4))
theorem k27_open {w : World} {x : S27} {cs : List Value} (h : k27.K w x cs) : ∃ A2 c2, cs = [.int .u8 x.f0, .int .i64 x.f1, .slice A2 x.f2.f0.length c2, .int .i64 x.f2.f1, .bool x.f3, .bool x.f4] ∧ x.f2.f0.length ≤ c2 ∧ k68.C w A2 x.f2.f0.length x.f2.f0 := by
  obtain ⟨_, _, rfl, rfl, ⟨_, _, rfl, rfl, ⟨_, _, rfl, s2, ⟨_, _, rfl, rfl, rfl⟩⟩⟩⟩ := h
  obtain ⟨A2, c2, rfl, l2, g2⟩ := k25_open s2
  exact ⟨A2, c2, rfl, l2, g2⟩
theorem k27_openM {w : World} {base : Nat} {ok : Nat → Prop} {x : S27} {cs : List Value} (h : k27.M w base ok x cs) : ∃ v2, cs = [.int .u8 x.f0, .int .i64 x.f1, v2, .int .i64 x.f2.f1, .bool x.f3, .bool x.f4] ∧ k68.R 68 w base ok v2 x.f2.f0 := by
  obtain ⟨_, _, rfl, rfl, ⟨_, _, rfl, rfl, ⟨_, _, rfl, s2, ⟨_, _, rfl, rfl, rfl⟩⟩⟩⟩ := h
  obtain ⟨v2, rfl, g2⟩ := k25_openM s2
  exact ⟨v2, rfl, g2⟩
theorem k27_mk (w : World) (x : S27) {A2 : Option Addr} {c2 : Nat} (l2 : x.f2.f0.length ≤ c2) (g2 : k68.C w A2 x.f2.f0.length x.f2.f0) : k27.K w x [.int .u8 x.f0, .int .i64 x.f1, .slice A2 x.f2.f0.length c2, .int .i64 x.f2.f1, .bool x.f3, .bool x.f4] := ⟨[.int .u8 x.f0], [.int .i64 x.f1, .slice A2 x.f2.f0.length c2, .int .i64 x.f2.f1, .bool x.f3, .bool x.f4], rfl, rfl, ⟨[.int .i64 x.f1], [.slice A2 x.f2.f0.length c2, .int .i64 x.f2.f1, .bool x.f3, .bool x.f4], rfl, rfl, ⟨[.slice A2 x.f2.f0.length c2, .int .i64 x.f2.f1], [.bool x.f3, .bool x.f4], rfl, (k25_mk w x.f2 l2 g2), ⟨[.bool x.f3], [.bool x.f4], rfl, rfl, rfl⟩⟩⟩⟩
theorem k27_mkM (w : World) (base : Nat) (ok : Nat → Prop) (x : S27) {v2 : Value} (g2 : k68.R 68 w base ok v2 x.f2.f0) : k27.M w base ok x [.int .u8 x.f0, .int .i64 x.f1, v2, .int .i64 x.f2.f1, .bool x.f3, .bool x.f4] := ⟨[.int .u8 x.f0], [.int .i64 x.f1, v2, .int .i64 x.f2.f1, .bool x.f3, .bool x.f4], rfl, rfl, ⟨[.int .i64 x.f1], [v2, .int .i64 x.f2.f1, .bool x.f3, .bool x.f4], rfl, rfl, ⟨[v2, .int .i64 x.f2.f1], [.bool x.f3, .bool x.f4], rfl, (k25_mkM w base ok x.f2 g2), ⟨[.bool x.f3], [.bool x.f4], rfl, rfl, rfl⟩⟩⟩⟩
theorem k27_openF {W : World} {ok : Nat → Prop} {x : S27} {cs : List Value} (h : Kd.FK k27 W ok x cs) : ∃ A2 c2, cs = [.int .u8 x.f0, .int .i64 x.f1, .slice A2 x.f2.f0.length c2, .int .i64 x.f2.f1, .bool x.f3, .bool x.f4] ∧ x.f2.f0.length ≤ c2 ∧ Kd.F k68 W ok A2 x.f2.f0.length x.f2.f0 := by
  obtain ⟨A2, c2, rfl, l2, _⟩ := k27_open (Kd.FK_now h)
  exact ⟨A2, c2, rfl, l2, (fun W' hW => by obtain ⟨A2_, c2_, he, l2_, g2_⟩ := k27_open (h W' hW); injection (Option.some.inj (show some (Value.slice A2 x.f2.f0.length c2) = some (Value.slice A2_ x.f2.f0.length c2_) from congrArg (fun l => l[2]?) he)) with ha_ _ _; rw [ha_]; exact g2_)⟩
theorem k27_mkF (W : World) (ok : Nat → Prop) (x : S27) {A2 : Option Addr} {c2 : Nat} (l2 : x.f2.f0.length ≤ c2) (g2 : Kd.F k68 W ok A2 x.f2.f0.length x.f2.f0) : Kd.FK k27 W ok x [.int .u8 x.f0, .int .i64 x.f1, .slice A2 x.f2.f0.length c2, .int .i64 x.f2.f1, .bool x.f3, .bool x.f4] := fun W2 hW => k27_mk W2 x l2 (g2 W2 hW)
def rd_T27 (xs : List S27) (i : Int) : S27 := xs.getD i.toNat z27
theorem at_T27 {w : World} {A : Option Addr} {n : Nat} {xs : List S27} (h : Kd.C k27 w A n xs) (i : Int) (h0 : 0 ≤ i) (h1 : i < n) : ∃ ad A2 c2, A = some ad ∧ w.cell? (ad.add (i.toNat * 6)) = some (.int .u8 (rd_T27 xs i).f0) ∧ w.cell? ⟨(ad.add (i.toNat * 6)).block, (ad.add (i.toNat * 6)).off + 1, none⟩ = some (.int .i64 (rd_T27 xs i).f1) ∧ w.cell? ⟨(ad.add (i.toNat * 6)).block, (ad.add (i.toNat * 6)).off + 2, none⟩ = some (.slice A2 (rd_T27 xs i).f2.f0.length c2) ∧ w.cell? ⟨(ad.add (i.toNat * 6)).block, (ad.add (i.toNat * 6)).off + 3, none⟩ = some (.int .i64 (rd_T27 xs i).f2.f1) ∧ w.cell? ⟨(ad.add (i.toNat * 6)).block, (ad.add (i.toNat * 6)).off + 4, none⟩ = some (.bool (rd_T27 xs i).f3) ∧ w.cell? ⟨(ad.add (i.toNat * 6)).block, (ad.add (i.toNat * 6)).off + 5, none⟩ = some (.bool (rd_T27 xs i).f4) ∧ (rd_T27 xs i).f2.f0.length ≤ c2 ∧ k68.C w A2 (rd_T27 xs i).f2.f0.length (rd_T27 xs i).f2.f0 := by
  obtain ⟨ad, c, e, _, hK, hc0⟩ := Kd.C_get h z27 i h0 h1
  have hc : ∀ j u, c[j]? = some u → w.cell? (ad.add (i.toNat * 6 + j)) = some u := hc0
  obtain ⟨A2, c2, rfl, l2, g2⟩ := k27_open hK
  exact ⟨ad, A2, c2, e, hc 0 _ rfl, by rw [← add_field _ _ 1 (by omega)]; exact hc 1 _ rfl, by rw [← add_field _ _ 2 (by omega)]; exact hc 2 _ rfl, by rw [← add_field _ _ 3 (by omega)]; exact hc 3 _ rfl, by rw [← add_field _ _ 4 (by omega)]; exact hc 4 _ rfl, by rw [← add_field _ _ 5 (by omega)]; exact hc 5 _ rfl, l2, g2⟩

/-! #### struct type 71 -/
structure S71 where
  f0 : Int
  f1 : (List Int)
  f2 : Int
def z71 : S71 := ⟨(0 : Int), ([] : List Int), (0 : Int)⟩
def k71 : Kd S71 := Kd.iso (Kd.pair (Kd.int .u8) (Kd.pair (Kd.slice 62 (Kd.int .i32)) (Kd.int .i64))) (fun x : S71 => (x.f0, x.f1, x.f2))
theorem k71_open {w : World} {x : S71} {cs : List Value} (h : k71.K w x cs) : ∃ A1 c1, cs = [.int .u8 x.f0, .slice A1 x.f1.length c1, .int .i64 x.f2] ∧ x.f1.length ≤ c1 ∧ (Kd.int .i32).C w A1 x.f1.length x.f1 := by
  obtain ⟨_, _, rfl, rfl, ⟨_, _, rfl, ⟨A1, c1, rfl, l1, g1⟩, rfl⟩⟩ := h
  exact ⟨A1, c1, rfl, l1, g1⟩
theorem k71_openM {w : World} {base : Nat} {ok : Nat → Prop} {x : S71} {cs : List Value} (h : k71.M w base ok x cs) : ∃ v1, cs = [.int .u8 x.f0, v1, .int .i64 x.f2] ∧ (Kd.int .i32).R 62 w base ok v1 x.f1 := by
  obtain ⟨_, _, rfl, rfl, ⟨_, _, rfl, ⟨v1, rfl, g1⟩, rfl⟩⟩ := h
  exact ⟨v1, rfl, g1⟩
theorem k71_mk (w : World) (x : S71) {A1 : Option Addr} {c1 : Nat} (l1 : x.f1.length ≤ c1) (g1 : (Kd.int .i32).C w A1 x.f1.length x.f1) : k71.K w x [.int .u8 x.f0, .slice A1 x.f1.length c1, .int .i64 x.f2] := ⟨[.int .u8 x.f0], [.slice A1 x.f1.length c1, .int .i64 x.f2], rfl, rfl, ⟨[.slice A1 x.f1.length c1], [.int .i64 x.f2], rfl, ⟨A1, c1, rfl, l1, g1⟩, rfl⟩⟩
theorem k71_mkM (w : World) (base : Nat) (ok : Nat → Prop) (x : S71) {v1 : Value} (g1 : (Kd.int .i32).R 62 w base ok v1 x.f1) : k71.M w base ok x [.int .u8 x.f0, v1, .int .i64 x.f2] := ⟨[.int .u8 x.f0], [v1, .int .i64 x.f2], rfl, rfl, ⟨[v1], [.int .i64 x.f2], rfl, ⟨v1, rfl, g1⟩, rfl⟩⟩
theorem k71_openF {W : World} {ok : Nat → Prop} {x : S71} {cs : List Value} (h : Kd.FK k71 W ok x cs) : ∃ A1 c1, cs = [.int .u8 x.f0, .slice A1 x.f1.length c1, .int .i64 x.f2] ∧ x.f1.length ≤ c1 ∧ Kd.F (Kd.int .i32) W ok A1 x.f1.length x.f1 := by
  obtain ⟨A1, c1, rfl, l1, _⟩ := k71_open (Kd.FK_now h)
  exact ⟨A1, c1, rfl, l1, (fun W' hW => by obtain ⟨A1_, c1_, he, l1_, g1_⟩ := k71_open (h W' hW); injection (Option.some.inj (show some (Value.slice A1 x.f1.length c1) = some (Value.slice A1_ x.f1.length c1_) from congrArg (fun l => l[1]?) he)) with ha_ _ _; rw [ha_]; exact g1_)⟩
theorem k71_mkF (W : World) (ok : Nat → Prop) (x : S71) {A1 : Option Addr} {c1 : Nat} (l1 : x.f1.length ≤ c1) (g1 : Kd.F (Kd.int .i32) W ok A1 x.f1.length x.f1) : Kd.FK k71 W ok x [.int .u8 x.f0, .slice A1 x.f1.length c1, .int .i64 x.f2] := fun W2 hW => k71_mk W2 x l1 (g1 W2 hW)
def rd_T71 (xs : List S71) (i : Int) : S71 := xs.getD i.toNat z71
theorem at_T71 {w : World} {A : Option Addr} {n : Nat} {xs : List S71} (h : Kd.C k71 w A n xs) (i : Int) (h0 : 0 ≤ i) (h1 : i < n) : ∃ ad A1 c1, A = some ad ∧ w.cell? (ad.add (i.toNat * 3)) = some (.int .u8 (rd_T71 xs i).f0) ∧ w.cell? ⟨(ad.add (i.toNat * 3)).block, (ad.add (i.toNat * 3)).off + 1, none⟩ = some (.slice A1 (rd_T71 xs i).f1.length c1) ∧ w.cell? ⟨(ad.add (i.toNat * 3)).block, (ad.add (i.toNat * 3)).off + 2, none⟩ = some (.int .i64 (rd_T71 xs i).f2) ∧ (rd_T71 xs i).f1.length ≤ c1 ∧ (Kd.int .i32).C w A1 (rd_T71 xs i).f1.length (rd_T71 xs i).f1 := by
  obtain ⟨ad, c, e, _, hK, hc0⟩ := Kd.C_get h z71 i h0 h1
  have hc : ∀ j u, c[j]? = some u → w.cell? (ad.add (i.toNat * 3 + j)) = some u := hc0
  obtain ⟨A1, c1, rfl, l1, g1⟩ := k71_open hK
  exact ⟨ad, A1, c1, e, hc 0 _ rfl, by rw [← add_field _ _ 1 (by omega)]; exact hc 1 _ rfl, by rw [← add_field _ _ 2 (by omega)]; exact hc 2 _ rfl, l1, g1⟩

def rd_L16 (xs : List (List S71)) (i : Int) : (List S71) := xs.getD i.toNat ([] : List S71)
theorem at_L16 {w : World} {A : Option Addr} {n : Nat} {xs : List (List S71)} (h : Kd.C (Kd.slice 71 k71) w A n xs) (i : Int) (h0 : 0 ≤ i) (h1 : i < n) : ∃ ad A0 c0, A = some ad ∧ w.cell? (ad.add i.toNat) = some (.slice A0 (rd_L16 xs i).length c0) ∧ (rd_L16 xs i).length ≤ c0 ∧ k71.C w A0 (rd_L16 xs i).length (rd_L16 xs i) := by
  obtain ⟨ad, c, e, _, hK, hc0⟩ := Kd.C_get h ([] : List S71) i h0 h1
  have hc : ∀ j u, c[j]? = some u → w.cell? (ad.add (i.toNat * 1 + j)) = some u := hc0
  obtain ⟨A0, c0, rfl, l0, g0⟩ := hK
  exact ⟨ad, A0, c0, e, by have hq := hc 0 _ rfl; rwa [Nat.mul_one, Nat.add_zero] at hq, l0, g0⟩

/-! #### struct type 73 -/
structure S73 where
  f0 : Int
  f1 : Int
def z73 : S73 := ⟨(0 : Int), (0 : Int)⟩
def k73 : Kd S73 := Kd.iso (Kd.pair (Kd.int .i32) (Kd.int .i32)) (fun x : S73 => (x.f0, x.f1))
theorem k73_open {w : World} {x : S73} {cs : List Value} (h : k73.K w x cs) : cs = [.int .i32 x.f0, .int .i32 x.f1] := by
  obtain ⟨_, _, rfl, rfl, rfl⟩ := h
  exact rfl
theorem k73_openM {w : World} {base : Nat} {ok : Nat → Prop} {x : S73} {cs : List Value} (h : k73.M w base ok x cs) : cs = [.int .i32 x.f0, .int .i32 x.f1] := by
  obtain ⟨_, _, rfl, rfl, rfl⟩ := h
  exact rfl
theorem k73_mk (w : World) (x : S73)  : k73.K w x [.int .i32 x.f0, .int .i32 x.f1] := ⟨[.int .i32 x.f0], [.int .i32 x.f1], rfl, rfl, rfl⟩
theorem k73_mkM (w : World) (base : Nat) (ok : Nat → Prop) (x : S73)  : k73.M w base ok x [.int .i32 x.f0, .int .i32 x.f1] := ⟨[.int .i32 x.f0], [.int .i32 x.f1], rfl, rfl, rfl⟩
theorem k73_mkF (W : World) (ok : Nat → Prop) (x : S73) : Kd.FK k73 W ok x [.int .i32 x.f0, .int .i32 x.f1] := fun W2 _ => k73_mk W2 x
def rd_T73 (xs : List S73) (i : Int) : S73 := xs.getD i.toNat z73
theorem at_T73 {w : World} {A : Option Addr} {n : Nat} {xs : List S73} (h : Kd.C k73 w A n xs) (i : Int) (h0 : 0 ≤ i) (h1 : i < n) : ∃ ad , A = some ad ∧ w.cell? (ad.add (i.toNat * 2)) = some (.int .i32 (rd_T73 xs i).f0) ∧ w.cell? ⟨(ad.add (i.toNat * 2)).block, (ad.add (i.toNat * 2)).off + 1, none⟩ = some (.int .i32 (rd_T73 xs i).f1) := by
  obtain ⟨ad, c, e, _, hK, hc0⟩ := Kd.C_get h z73 i h0 h1
  have hc : ∀ j u, c[j]? = some u → w.cell? (ad.add (i.toNat * 2 + j)) = some u := hc0
  obtain rfl := k73_open hK
  exact ⟨ad, e, hc 0 _ rfl, by rw [← add_field _ _ 1 (by omega)]; exact hc 1 _ rfl⟩

def rd_L18 (xs : List (List S73)) (i : Int) : (List S73) := xs.getD i.toNat ([] : List S73)
theorem at_L18 {w : World} {A : Option Addr} {n : Nat} {xs : List (List S73)} (h : Kd.C (Kd.slice 73 k73) w A n xs) (i : Int) (h0 : 0 ≤ i) (h1 : i < n) : ∃ ad A0 c0, A = some ad ∧ w.cell? (ad.add i.toNat) = some (.slice A0 (rd_L18 xs i).length c0) ∧ (rd_L18 xs i).length ≤ c0 ∧ k73.C w A0 (rd_L18 xs i).length (rd_L18 xs i) := by
  obtain ⟨ad, c, e, _, hK, hc0⟩ := Kd.C_get h ([] : List S73) i h0 h1
  have hc : ∀ j u, c[j]? = some u → w.cell? (ad.add (i.toNat * 1 + j)) = some u := hc0
  obtain ⟨A0, c0, rfl, l0, g0⟩ := hK
  exact ⟨ad, A0, c0, e, by have hq := hc 0 _ rfl; rwa [Nat.mul_one, Nat.add_zero] at hq, l0, g0⟩

/-! #### struct type 32 -/
structure S32 where
  f0 : S27
  f1 : S27
  f2 : Bool
  f3 : Int
  f4 : (List Int)
  f5 : ByteArray
  f6 : ByteArray
  f7 : S25
  f8 : Bool
  f9 : Bool
  f10 : (List S71)
  f11 : Int
  f12 : Bool
  f13 : Bool
  f14 : (List S73)
  f15 : Int
  f16 : Int
def z32 : S32 := ⟨z27, z27, false, (0 : Int), ([] : List Int), (⟨#[]⟩ : ByteArray), (⟨#[]⟩ : ByteArray), z25, false, false, ([] : List S71), (0 : Int), false, false, ([] : List S73), (0 : Int), (0 : Int)⟩
def k32 : Kd S32 := Kd.iso (Kd.pair k27 (Kd.pair k27 (Kd.pair Kd.bool (Kd.pair (Kd.int .u8) (Kd.pair (Kd.slice 62 (Kd.int .i32)) (Kd.pair Kd.string (Kd.pair Kd.string (Kd.pair k25 (Kd.pair Kd.bool (Kd.pair Kd.bool (Kd.pair (Kd.slice 71 k71) (Kd.pair (Kd.int .i64) (Kd.pair Kd.bool (Kd.pair Kd.bool (Kd.pair (Kd.slice 73 k73) (Kd.pair (Kd.int .i64) (Kd.int .i64))))))))))))))))) (fun x : S32 => (x.f0, x.f1, x.f2, x.f3, x.f4, x.f5, x.f6, x.f7, x.f8, x.f9, x.f10, x.f11, x.f12, x.f13, x.f14, x.f15, x.f16))
theorem k32_open {w : World} {x : S32} {cs : List Value} (h : k32.K w x cs) : ∃ A2 c2 A8 c8 A14 c14 A17 c17 A21 c21 A25 c25, cs = [.int .u8 x.f0.f0, .int .i64 x.f0.f1, .slice A2 x.f0.f2.f0.length c2, .int .i64 x.f0.f2.f1, .bool x.f0.f3, .bool x.f0.f4, .int .u8 x.f1.f0, .int .i64 x.f1.f1, .slice A8 x.f1.f2.f0.length c8, .int .i64 x.f1.f2.f1, .bool x.f1.f3, .bool x.f1.f4, .bool x.f2, .int .u8 x.f3, .slice A14 x.f4.length c14, .string x.f5, .string x.f6, .slice A17 x.f7.f0.length c17, .int .i64 x.f7.f1, .bool x.f8, .bool x.f9, .slice A21 x.f10.length c21, .int .i64 x.f11, .bool x.f12, .bool x.f13, .slice A25 x.f14.length c25, .int .i64 x.f15, .int .i64 x.f16] ∧ x.f0.f2.f0.length ≤ c2 ∧ k68.C w A2 x.f0.f2.f0.length x.f0.f2.f0 ∧ x.f1.f2.f0.length ≤ c8 ∧ k68.C w A8 x.f1.f2.f0.length x.f1.f2.f0 ∧ x.f4.length ≤ c14 ∧ (Kd.int .i32).C w A14 x.f4.length x.f4 ∧ x.f7.f0.length ≤ c17 ∧ k68.C w A17 x.f7.f0.length x.f7.f0 ∧ x.f10.length ≤ c21 ∧ k71.C w A21 x.f10.length x.f10 ∧ x.f14.length ≤ c25 ∧ k73.C w A25 x.f14.length x.f14 := by
  obtain ⟨_, _, rfl, s0, ⟨_, _, rfl, s6, ⟨_, _, rfl, rfl, ⟨_, _, rfl, rfl, ⟨_, _, rfl, ⟨A14, c14, rfl, l14, g14⟩, ⟨_, _, rfl, rfl, ⟨_, _, rfl, rfl, ⟨_, _, rfl, s17, ⟨_, _, rfl, rfl, ⟨_, _, rfl, rfl, ⟨_, _, rfl, ⟨A21, c21, rfl, l21, g21⟩, ⟨_, _, rfl, rfl, ⟨_, _, rfl, rfl, ⟨_, _, rfl, rfl, ⟨_, _, rfl, ⟨A25, c25, rfl, l25, g25⟩, ⟨_, _, rfl, rfl, rfl⟩⟩⟩⟩⟩⟩⟩⟩⟩⟩⟩⟩⟩⟩⟩⟩ := h
  obtain ⟨A2, c2, rfl, l2, g2⟩ := k27_open s0
  obtain ⟨A8, c8, rfl, l8, g8⟩ := k27_open s6
  obtain ⟨A17, c17, rfl, l17, g17⟩ := k25_open s17
  exact ⟨A2, c2, A8, c8, A14, c14, A17, c17, A21, c21, A25, c25, rfl, l2, g2, l8, g8, l14, g14, l17, g17, l21, g21, l25, g25⟩
theorem k32_openM {w : World} {base : Nat} {ok : Nat → Prop} {x : S32} {cs : List Value} (h : k32.M w base ok x cs) : ∃ v2 v8 v14 v17 v21 v25, cs = [.int .u8 x.f0.f0, .int .i64 x.f0.f1, v2, .int .i64 x.f0.f2.f1, .bool x.f0.f3, .bool x.f0.f4, .int .u8 x.f1.f0, .int .i64 x.f1.f1, v8, .int .i64 x.f1.f2.f1, .bool x.f1.f3, .bool x.f1.f4, .bool x.f2, .int .u8 x.f3, v14, .string x.f5, .string x.f6, v17, .int .i64 x.f7.f1, .bool x.f8, .bool x.f9, v21, .int .i64 x.f11, .bool x.f12, .bool x.f13, v25, .int .i64 x.f15, .int .i64 x.f16] ∧ k68.R 68 w base ok v2 x.f0.f2.f0 ∧ k68.R 68 w base ok v8 x.f1.f2.f0 ∧ (Kd.int .i32).R 62 w base ok v14 x.f4 ∧ k68.R 68 w base ok v17 x.f7.f0 ∧ k71.R 71 w base ok v21 x.f10 ∧ k73.R 73 w base ok v25 x.f14 := by
  obtain ⟨_, _, rfl, s0, ⟨_, _, rfl, s6, ⟨_, _, rfl, rfl, ⟨_, _, rfl, rfl, ⟨_, _, rfl, ⟨v14, rfl, g14⟩, ⟨_, _, rfl, rfl, ⟨_, _, rfl, rfl, ⟨_, _, rfl, s17, ⟨_, _, rfl, rfl, ⟨_, _, rfl, rfl, ⟨_, _, rfl, ⟨v21, rfl, g21⟩, ⟨_, _, rfl, rfl, ⟨_, _, rfl, rfl, ⟨_, _, rfl, rfl, ⟨_, _, rfl, ⟨v25, rfl, g25⟩, ⟨_, _, rfl, rfl, rfl⟩⟩⟩⟩⟩⟩⟩⟩⟩⟩⟩⟩⟩⟩⟩⟩ := h
  obtain ⟨v2, rfl, g2⟩ := k27_openM s0
  obtain ⟨v8, rfl, g8⟩ := k27_openM s6
  obtain ⟨v17, rfl, g17⟩ := k25_openM s17
  exact ⟨v2, v8, v14, v17, v21, v25, rfl, g2, g8, g14, g17, g21, g25⟩
theorem k32_mk (w : World) (x : S32) {A2 : Option Addr} {c2 : Nat} (l2 : x.f0.f2.f0.length ≤ c2) (g2 : k68.C w A2 x.f0.f2.f0.length x.f0.f2.f0) {A8 : Option Addr} {c8 : Nat} (l8 : x.f1.f2.f0.length ≤ c8) (g8 : k68.C w A8 x.f1.f2.f0.length x.f1.f2.f0) {A14 : Option Addr} {c14 : Nat} (l14 : x.f4.length ≤ c14) (g14 : (Kd.int .i32).C w A14 x.f4.length x.f4) {A17 : Option Addr} {c17 : Nat} (l17 : x.f7.f0.length ≤ c17) (g17 : k68.C w A17 x.f7.f0.length x.f7.f0) {A21 : Option Addr} {c21 : Nat} (l21 : x.f10.length ≤ c21) (g21 : k71.C w A21 x.f10.length x.f10) {A25 : Option Addr} {c25 : Nat} (l25 : x.f14.length ≤ c25) (g25 : k73.C w A25 x.f14.length x.f14) : k32.K w x [.int .u8 x.f0.f0, .int .i64 x.f0.f1, .slice A2 x.f0.f2.f0.length c2, .int .i64 x.f0.f2.f1, .bool x.f0.f3, .bool x.f0.f4, .int .u8 x.f1.f0, .int .i64 x.f1.f1, .slice A8 x.f1.f2.f0.length c8, .int .i64 x.f1.f2.f1, .bool x.f1.f3, .bool x.f1.f4, .bool x.f2, .int .u8 x.f3, .slice A14 x.f4.length c14, .string x.f5, .string x.f6, .slice A17 x.f7.f0.length c17, .int .i64 x.f7.f1, .bool x.f8, .bool x.f9, .slice A21 x.f10.length c21, .int .i64 x.f11, .bool x.f12, .bool x.f13, .slice A25 x.f14.length c25, .int .i64 x.f15, .int .i64 x.f16] := ⟨[.int .u8 x.f0.f0, .int .i64 x.f0.f1, .slice A2 x.f0.f2.f0.length c2, .int .i64 x.f0.f2.f1, .bool x.f0.f3, .bool x.f0.f4], [.int .u8 x.f1.f0, .int .i64 x.f1.f1, .slice A8 x.f1.f2.f0.length c8, .int .i64 x.f1.f2.f1, .bool x.f1.f3, .bool x.f1.f4, .bool x.f2, .int .u8 x.f3, .slice A14 x.f4.length c14, .string x.f5, .string x.f6, .slice A17 x.f7.f0.length c17, .int .i64 x.f7.f1, .bool x.f8, .bool x.f9, .slice A21 x.f10.length c21, .int .i64 x.f11, .bool x.f12, .bool x.f13, .slice A25 x.f14.length c25, .int .i64 x.f15, .int .i64 x.f16], rfl, (k27_mk w x.f0 l2 g2), ⟨[.int .u8 x.f1.f0, .int .i64 x.f1.f1, .slice A8 x.f1.f2.f0.length c8, .int .i64 x.f1.f2.f1, .bool x.f1.f3, .bool x.f1.f4], [.bool x.f2, .int .u8 x.f3, .slice A14 x.f4.length c14, .string x.f5, .string x.f6, .slice A17 x.f7.f0.length c17, .int .i64 x.f7.f1, .bool x.f8, .bool x.f9, .slice A21 x.f10.length c21, .int .i64 x.f11, .bool x.f12, .bool x.f13, .slice A25 x.f14.length c25, .int .i64 x.f15, .int .i64 x.f16], rfl, (k27_mk w x.f1 l8 g8), ⟨[.bool x.f2], [.int .u8 x.f3, .slice A14 x.f4.length c14, .string x.f5, .string x.f6, .slice A17 x.f7.f0.length c17, .int .i64 x.f7.f1, .bool x.f8, .bool x.f9, .slice A21 x.f10.length c21, .int .i64 x.f11, .bool x.f12, .bool x.f13, .slice A25 x.f14.length c25, .int .i64 x.f15, .int .i64 x.f16], rfl, rfl, ⟨[.int .u8 x.f3], [.slice A14 x.f4.length c14, .string x.f5, .string x.f6, .slice A17 x.f7.f0.length c17, .int .i64 x.f7.f1, .bool x.f8, .bool x.f9, .slice A21 x.f10.length c21, .int .i64 x.f11, .bool x.f12, .bool x.f13, .slice A25 x.f14.length c25, .int .i64 x.f15, .int .i64 x.f16], rfl, rfl, ⟨[.slice A14 x.f4.length c14], [.string x.f5, .string x.f6, .slice A17 x.f7.f0.length c17, .int .i64 x.f7.f1, .bool x.f8, .bool x.f9, .slice A21 x.f10.length c21, .int .i64 x.f11, .bool x.f12, .bool x.f13, .slice A25 x.f14.length c25, .int .i64 x.f15, .int .i64 x.f16], rfl, ⟨A14, c14, rfl, l14, g14⟩, ⟨[.string x.f5], [.string x.f6, .slice A17 x.f7.f0.length c17, .int .i64 x.f7.f1, .bool x.f8, .bool x.f9, .slice A21 x.f10.length c21, .int .i64 x.f11, .bool x.f12, .bool x.f13, .slice A25 x.f14.length c25, .int .i64 x.f15, .int .i64 x.f16], rfl, rfl, ⟨[.string x.f6], [.slice A17 x.f7.f0.length c17, .int .i64 x.f7.f1, .bool x.f8, .bool x.f9, .slice A21 x.f10.length c21, .int .i64 x.f11, .bool x.f12, .bool x.f13, .slice A25 x.f14.length c25, .int .i64 x.f15, .int .i64 x.f16], rfl, rfl, ⟨[.slice A17 x.f7.f0.length c17, .int .i64 x.f7.f1], [.bool x.f8, .bool x.f9, .slice A21 x.f10.length c21, .int .i64 x.f11, .bool x.f12, .bool x.f13, .slice A25 x.f14.length c25, .int .i64 x.f15, .int .i64 x.f16], rfl, (k25_mk w x.f7 l17 g17), ⟨[.bool x.f8], [.bool x.f9, .slice A21 x.f10.length c21, .int .i64 x.f11, .bool x.f12, .bool x.f13, .slice A25 x.f14.length c25, .int .i64 x.f15, .int .i64 x.f16], rfl, rfl, ⟨[.bool x.f9], [.slice A21 x.f10.length c21, .int .i64 x.f11, .bool x.f12, .bool x.f13, .slice A25 x.f14.length c25, .int .i64 x.f15, .int .i64 x.f16], rfl, rfl, ⟨[.slice A21 x.f10.length c21], [.int .i64 x.f11, .bool x.f12, .bool x.f13, .slice A25 x.f14.length c25, .int .i64 x.f15, .int .i64 x.f16], rfl, ⟨A21, c21, rfl, l21, g21⟩, ⟨[.int .i64 x.f11], [.bool x.f12, .bool x.f13, .slice A25 x.f14.length c25, .int .i64 x.f15, .int .i64 x.f16], rfl, rfl, ⟨[.bool x.f12], [.bool x.f13, .slice A25 x.f14.length c25, .int .i64 x.f15, .int .i64 x.f16], rfl, rfl, ⟨[.bool x.f13], [.slice A25 x.f14.length c25, .int .i64 x.f15, .int .i64 x.f16], rfl, rfl, ⟨[.slice A25 x.f14.length c25], [.int .i64 x.f15, .int .i64 x.f16], rfl, ⟨A25, c25, rfl, l25, g25⟩, ⟨[.int .i64 x.f15], [.int .i64 x.f16], rfl, rfl, rfl⟩⟩⟩⟩⟩⟩⟩⟩⟩⟩⟩⟩⟩⟩⟩⟩
theorem k32_mkM (w : World) (base : Nat) (ok : Nat → Prop) (x : S32) {v2 : Value} (g2 : k68.R 68 w base ok v2 x.f0.f2.f0) {v8 : Value} (g8 : k68.R 68 w base ok v8 x.f1.f2.f0) {v14 : Value} (g14 : (Kd.int .i32).R 62 w base ok v14 x.f4) {v17 : Value} (g17 : k68.R 68 w base ok v17 x.f7.f0) {v21 : Value} (g21 : k71.R 71 w base ok v21 x.f10) {v25 : Value} (g25 : k73.R 73 w base ok v25 x.f14) : k32.M w base ok x [.int .u8 x.f0.f0, .int .i64 x.f0.f1, v2, .int .i64 x.f0.f2.f1, .bool x.f0.f3, .bool x.f0.f4, .int .u8 x.f1.f0, .int .i64 x.f1.f1, v8, .int .i64 x.f1.f2.f1, .bool x.f1.f3, .bool x.f1.f4, .bool x.f2, .int .u8 x.f3, v14, .string x.f5, .string x.f6, v17, .int .i64 x.f7.f1, .bool x.f8, .bool x.f9, v21, .int .i64 x.f11, .bool x.f12, .bool x.f13, v25, .int .i64 x.f15, .int .i64 x.f16] := ⟨[.int .u8 x.f0.f0, .int .i64 x.f0.f1, v2, .int .i64 x.f0.f2.f1, .bool x.f0.f3, .bool x.f0.f4], [.int .u8 x.f1.f0, .int .i64 x.f1.f1, v8, .int .i64 x.f1.f2.f1, .bool x.f1.f3, .bool x.f1.f4, .bool x.f2, .int .u8 x.f3, v14, .string x.f5, .string x.f6, v17, .int .i64 x.f7.f1, .bool x.f8, .bool x.f9, v21, .int .i64 x.f11, .bool x.f12, .bool x.f13, v25, .int .i64 x.f15, .int .i64 x.f16], rfl, (k27_mkM w base ok x.f0 g2), ⟨[.int .u8 x.f1.f0, .int .i64 x.f1.f1, v8, .int .i64 x.f1.f2.f1, .bool x.f1.f3, .bool x.f1.f4], [.bool x.f2, .int .u8 x.f3, v14, .string x.f5, .string x.f6, v17, .int .i64 x.f7.f1, .bool x.f8, .bool x.f9, v21, .int .i64 x.f11, .bool x.f12, .bool x.f13, v25, .int .i64 x.f15, .int .i64 x.f16], rfl, (k27_mkM w base ok x.f1 g8), ⟨[.bool x.f2], [.int .u8 x.f3, v14, .string x.f5, .string x.f6, v17, .int .i64 x.f7.f1, .bool x.f8, .bool x.f9, v21, .int .i64 x.f11, .bool x.f12, .bool x.f13, v25, .int .i64 x.f15, .int .i64 x.f16], rfl, rfl, ⟨[.int .u8 x.f3], [v14, .string x.f5, .string x.f6, v17, .int .i64 x.f7.f1, .bool x.f8, .bool x.f9, v21, .int .i64 x.f11, .bool x.f12, .bool x.f13, v25, .int .i64 x.f15, .int .i64 x.f16], rfl, rfl, ⟨[v14], [.string x.f5, .string x.f6, v17, .int .i64 x.f7.f1, .bool x.f8, .bool x.f9, v21, .int .i64 x.f11, .bool x.f12, .bool x.f13, v25, .int .i64 x.f15, .int .i64 x.f16], rfl, ⟨v14, rfl, g14⟩, ⟨[.string x.f5], [.string x.f6, v17, .int .i64 x.f7.f1, .bool x.f8, .bool x.f9, v21, .int .i64 x.f11, .bool x.f12, .bool x.f13, v25, .int .i64 x.f15, .int .i64 x.f16], rfl, rfl, ⟨[.string x.f6], [v17, .int .i64 x.f7.f1, .bool x.f8, .bool x.f9, v21, .int .i64 x.f11, .bool x.f12, .bool x.f13, v25, .int .i64 x.f15, .int .i64 x.f16], rfl, rfl, ⟨[v17, .int .i64 x.f7.f1], [.bool x.f8, .bool x.f9, v21, .int .i64 x.f11, .bool x.f12, .bool x.f13, v25, .int .i64 x.f15, .int .i64 x.f16], rfl, (k25_mkM w base ok x.f7 g17), ⟨[.bool x.f8], [.bool x.f9, v21, .int .i64 x.f11, .bool x.f12, .bool x.f13, v25, .int .i64 x.f15, .int .i64 x.f16], rfl, rfl, ⟨[.bool x.f9], [v21, .int .i64 x.f11, .bool x.f12, .bool x.f13, v25, .int .i64 x.f15, .int .i64 x.f16], rfl, rfl, ⟨[v21], [.int .i64 x.f11, .bool x.f12, .bool x.f13, v25, .int .i64 x.f15, .int .i64 x.f16], rfl, ⟨v21, rfl, g21⟩, ⟨[.int .i64 x.f11], [.bool x.f12, .bool x.f13, v25, .int .i64 x.f15, .int .i64 x.f16], rfl, rfl, ⟨[.bool x.f12], [.bool x.f13, v25, .int .i64 x.f15, .int .i64 x.f16], rfl, rfl, ⟨[.bool x.f13], [v25, .int .i64 x.f15, .int .i64 x.f16], rfl, rfl, ⟨[v25], [.int .i64 x.f15, .int .i64 x.f16], rfl, ⟨v25, rfl, g25⟩, ⟨[.int .i64 x.f15], [.int .i64 x.f16], rfl, rfl, rfl⟩⟩⟩⟩⟩⟩⟩⟩⟩⟩⟩⟩⟩⟩⟩⟩
theorem k32_openF {W : World} {ok : Nat → Prop} {x : S32} {cs : List Value} (h : Kd.FK k32 W ok x cs) : ∃ A2 c2 A8 c8 A14 c14 A17 c17 A21 c21 A25 c25, cs = [.int .u8 x.f0.f0, .int .i64 x.f0.f1, .slice A2 x.f0.f2.f0.length c2, .int .i64 x.f0.f2.f1, .bool x.f0.f3, .bool x.f0.f4, .int .u8 x.f1.f0, .int .i64 x.f1.f1, .slice A8 x.f1.f2.f0.length c8, .int .i64 x.f1.f2.f1, .bool x.f1.f3, .bool x.f1.f4, .bool x.f2, .int .u8 x.f3, .slice A14 x.f4.length c14, .string x.f5, .string x.f6, .slice A17 x.f7.f0.length c17, .int .i64 x.f7.f1, .bool x.f8, .bool x.f9, .slice A21 x.f10.length c21, .int .i64 x.f11, .bool x.f12, .bool x.f13, .slice A25 x.f14.length c25, .int .i64 x.f15, .int .i64 x.f16] ∧ x.f0.f2.f0.length ≤ c2 ∧ Kd.F k68 W ok A2 x.f0.f2.f0.length x.f0.f2.f0 ∧ x.f1.f2.f0.length ≤ c8 ∧ Kd.F k68 W ok A8 x.f1.f2.f0.length x.f1.f2.f0 ∧ x.f4.length ≤ c14 ∧ Kd.F (Kd.int .i32) W ok A14 x.f4.length x.f4 ∧ x.f7.f0.length ≤ c17 ∧ Kd.F k68 W ok A17 x.f7.f0.length x.f7.f0 ∧ x.f10.length ≤ c21 ∧ Kd.F k71 W ok A21 x.f10.length x.f10 ∧ x.f14.length ≤ c25 ∧ Kd.F k73 W ok A25 x.f14.length x.f14 := by
  obtain ⟨A2, c2, A8, c8, A14, c14, A17, c17, A21, c21, A25, c25, rfl, l2, _, l8, _, l14, _, l17, _, l21, _, l25, _⟩ := k32_open (Kd.FK_now h)
  exact ⟨A2, c2, A8, c8, A14, c14, A17, c17, A21, c21, A25, c25, rfl, l2, (fun W' hW => by obtain ⟨A2_, c2_, A8_, c8_, A14_, c14_, A17_, c17_, A21_, c21_, A25_, c25_, he, l2_, g2_, l8_, g8_, l14_, g14_, l17_, g17_, l21_, g21_, l25_, g25_⟩ := k32_open (h W' hW); injection (Option.some.inj (show some (Value.slice A2 x.f0.f2.f0.length c2) = some (Value.slice A2_ x.f0.f2.f0.length c2_) from congrArg (fun l => l[2]?) he)) with ha_ _ _; rw [ha_]; exact g2_), l8, (fun W' hW => by obtain ⟨A2_, c2_, A8_, c8_, A14_, c14_, A17_, c17_, A21_, c21_, A25_, c25_, he, l2_, g2_, l8_, g8_, l14_, g14_, l17_, g17_, l21_, g21_, l25_, g25_⟩ := k32_open (h W' hW); injection (Option.some.inj (show some (Value.slice A8 x.f1.f2.f0.length c8) = some (Value.slice A8_ x.f1.f2.f0.length c8_) from congrArg (fun l => l[8]?) he)) with ha_ _ _; rw [ha_]; exact g8_), l14, (fun W' hW => by obtain ⟨A2_, c2_, A8_, c8_, A14_, c14_, A17_, c17_, A21_, c21_, A25_, c25_, he, l2_, g2_, l8_, g8_, l14_, g14_, l17_, g17_, l21_, g21_, l25_, g25_⟩ := k32_open (h W' hW); injection (Option.some.inj (show some (Value.slice A14 x.f4.length c14) = some (Value.slice A14_ x.f4.length c14_) from congrArg (fun l => l[14]?) he)) with ha_ _ _; rw [ha_]; exact g14_), l17, (fun W' hW => by obtain ⟨A2_, c2_, A8_, c8_, A14_, c14_, A17_, c17_, A21_, c21_, A25_, c25_, he, l2_, g2_, l8_, g8_, l14_, g14_, l17_, g17_, l21_, g21_, l25_, g25_⟩ := k32_open (h W' hW); injection (Option.some.inj (show some (Value.slice A17 x.f7.f0.length c17) = some (Value.slice A17_ x.f7.f0.length c17_) from congrArg (fun l => l[17]?) he)) with ha_ _ _; rw [ha_]; exact g17_), l21, (fun W' hW => by obtain ⟨A2_, c2_, A8_, c8_, A14_, c14_, A17_, c17_, A21_, c21_, A25_, c25_, he, l2_, g2_, l8_, g8_, l14_, g14_, l17_, g17_, l21_, g21_, l25_, g25_⟩ := k32_open (h W' hW); injection (Option.some.inj (show some (Value.slice A21 x.f10.length c21) = some (Value.slice A21_ x.f10.length c21_) from congrArg (fun l => l[21]?) he)) with ha_ _ _; rw [ha_]; exact g21_), l25, (fun W' hW => by obtain ⟨A2_, c2_, A8_, c8_, A14_, c14_, A17_, c17_, A21_, c21_, A25_, c25_, he, l2_, g2_, l8_, g8_, l14_, g14_, l17_, g17_, l21_, g21_, l25_, g25_⟩ := k32_open (h W' hW); injection (Option.some.inj (show some (Value.slice A25 x.f14.length c25) = some (Value.slice A25_ x.f14.length c25_) from congrArg (fun l => l[25]?) he)) with ha_ _ _; rw [ha_]; exact g25_)⟩
theorem k32_mkF (W : World) (ok : Nat → Prop) (x : S32) {A2 : Option Addr} {c2 : Nat} (l2 : x.f0.f2.f0.length ≤ c2) (g2 : Kd.F k68 W ok A2 x.f0.f2.f0.length x.f0.f2.f0) {A8 : Option Addr} {c8 : Nat} (l8 : x.f1.f2.f0.length ≤ c8) (g8 : Kd.F k68 W ok A8 x.f1.f2.f0.length x.f1.f2.f0) {A14 : Option Addr} {c14 : Nat} (l14 : x.f4.length ≤ c14) (g14 : Kd.F (Kd.int .i32) W ok A14 x.f4.length x.f4) {A17 : Option Addr} {c17 : Nat} (l17 : x.f7.f0.length ≤ c17) (g17 : Kd.F k68 W ok A17 x.f7.f0.length x.f7.f0) {A21 : Option Addr} {c21 : Nat} (l21 : x.f10.length ≤ c21) (g21 : Kd.F k71 W ok A21 x.f10.length x.f10) {A25 : Option Addr} {c25 : Nat} (l25 : x.f14.length ≤ c25) (g25 : Kd.F k73 W ok A25 x.f14.length x.f14) : Kd.FK k32 W ok x [.int .u8 x.f0.f0, .int .i64 x.f0.f1, .slice A2 x.f0.f2.f0.length c2, .int .i64 x.f0.f2.f1, .bool x.f0.f3, .bool x.f0.f4, .int .u8 x.f1.f0, .int .i64 x.f1.f1, .slice A8 x.f1.f2.f0.length c8, .int .i64 x.f1.f2.f1, .bool x.f1.f3, .bool x.f1.f4, .bool x.f2, .int .u8 x.f3, .slice A14 x.f4.length c14, .string x.f5, .string x.f6, .slice A17 x.f7.f0.length c17, .int .i64 x.f7.f1, .bool x.f8, .bool x.f9, .slice A21 x.f10.length c21, .int .i64 x.f11, .bool x.f12, .bool x.f13, .slice A25 x.f14.length c25, .int .i64 x.f15, .int .i64 x.f16] := fun W2 hW => k32_mk W2 x l2 (g2 W2 hW) l8 (g8 W2 hW) l14 (g14 W2 hW) l17 (g17 W2 hW) l21 (g21 W2 hW) l25 (g25 W2 hW)
def rd_T32 (xs : List S32) (i : Int) : S32 := xs.getD i.toNat z32
theorem at_T32 {w : World} {A : Option Addr} {n : Nat} {xs : List S32} (h : Kd.C k32 w A n xs) (i : Int) (h0 : 0 ≤ i) (h1 : i < n) : ∃ ad A2 c2 A8 c8 A14 c14 A17 c17 A21 c21 A25 c25, A = some ad ∧ w.cell? (ad.add (i.toNat * 28)) = some (.int .u8 (rd_T32 xs i).f0.f0) ∧ w.cell? ⟨(ad.add (i.toNat * 28)).block, (ad.add (i.toNat * 28)).off + 1, none⟩ = some (.int .i64 (rd_T32 xs i).f0.f1) ∧ w.cell? ⟨(ad.add (i.toNat * 28)).block, (ad.add (i.toNat * 28)).off + 2, none⟩ = some (.slice A2 (rd_T32 xs i).f0.f2.f0.length c2) ∧ w.cell? ⟨(ad.add (i.toNat * 28)).block, (ad.add (i.toNat * 28)).off + 3, none⟩ = some (.int .i64 (rd_T32 xs i).f0.f2.f1) ∧ w.cell? ⟨(ad.add (i.toNat * 28)).block, (ad.add (i.toNat * 28)).off + 4, none⟩ = some (.bool (rd_T32 xs i).f0.f3) ∧ w.cell? ⟨(ad.add (i.toNat * 28)).block, (ad.add (i.toNat * 28)).off + 5, none⟩ = some (.bool (rd_T32 xs i).f0.f4) ∧ w.cell? ⟨(ad.add (i.toNat * 28)).block, (ad.add (i.toNat * 28)).off + 6, none⟩ = some (.int .u8 (rd_T32 xs i).f1.f0) ∧ w.cell? ⟨(ad.add (i.toNat * 28)).block, (ad.add (i.toNat * 28)).off + 7, none⟩ = some (.int .i64 (rd_T32 xs i).f1.f1) ∧ w.cell? ⟨(ad.add (i.toNat * 28)).block, (ad.add (i.toNat * 28)).off + 8, none⟩ = some (.slice A8 (rd_T32 xs i).f1.f2.f0.length c8) ∧ w.cell? ⟨(ad.add (i.toNat * 28)).block, (ad.add (i.toNat * 28)).off + 9, none⟩ = some (.int .i64 (rd_T32 xs i).f1.f2.f1) ∧ w.cell? ⟨(ad.add (i.toNat * 28)).block, (ad.add (i.toNat * 28)).off + 10, none⟩ = some (.bool (rd_T32 xs i).f1.f3) ∧ w.cell? ⟨(ad.add (i.toNat * 28)).block, (ad.add (i.toNat * 28)).off + 11, none⟩ = some (.bool (rd_T32 xs i).f1.f4) ∧ w.cell? ⟨(ad.add (i.toNat * 28)).block, (ad.add (i.toNat * 28)).off + 12, none⟩ = some (.bool (rd_T32 xs i).f2) ∧ w.cell? ⟨(ad.add (i.toNat * 28)).block, (ad.add (i.toNat * 28)).off + 13, none⟩ = some (.int .u8 (rd_T32 xs i).f3) ∧ w.cell? ⟨(ad.add (i.toNat * 28)).block, (ad.add (i.toNat * 28)).off + 14, none⟩ = some (.slice A14 (rd_T32 xs i).f4.length c14) ∧ w.cell? ⟨(ad.add (i.toNat * 28)).block, (ad.add (i.toNat * 28)).off + 15, none⟩ = some (.string (rd_T32 xs i).f5) ∧ w.cell? ⟨(ad.add (i.toNat * 28)).block, (ad.add (i.toNat * 28)).off + 16, none⟩ = some (.string (rd_T32 xs i).f6) ∧ w.cell? ⟨(ad.add (i.toNat * 28)).block, (ad.add (i.toNat * 28)).off + 17, none⟩ = some (.slice A17 (rd_T32 xs i).f7.f0.length c17) ∧ w.cell? ⟨(ad.add (i.toNat * 28)).block, (ad.add (i.toNat * 28)).off + 18, none⟩ = some (.int .i64 (rd_T32 xs i).f7.f1) ∧ w.cell? ⟨(ad.add (i.toNat * 28)).block, (ad.add (i.toNat * 28)).off + 19, none⟩ = some (.bool (rd_T32 xs i).f8) ∧ w.cell? ⟨(ad.add (i.toNat * 28)).block, (ad.add (i.toNat * 28)).off + 20, none⟩ = some (.bool (rd_T32 xs i).f9) ∧ w.cell? ⟨(ad.add (i.toNat * 28)).block, (ad.add (i.toNat * 28)).off + 21, none⟩ = some (.slice A21 (rd_T32 xs i).f10.length c21) ∧ w.cell? ⟨(ad.add (i.toNat * 28)).block, (ad.add (i.toNat * 28)).off + 22, none⟩ = some (.int .i64 (rd_T32 xs i).f11) ∧ w.cell? ⟨(ad.add (i.toNat * 28)).block, (ad.add (i.toNat * 28)).off + 23, none⟩ = some (.bool (rd_T32 xs i).f12) ∧ w.cell? ⟨(ad.add (i.toNat * 28)).block, (ad.add (i.toNat * 28)).off + 24, none⟩ = some (.bool (rd_T32 xs i).f13) ∧ w.cell? ⟨(ad.add (i.toNat * 28)).block, (ad.add (i.toNat * 28)).off + 25, none⟩ = some (.slice A25 (rd_T32 xs i).f14.length c25) ∧ w.cell? ⟨(ad.add (i.toNat * 28)).block, (ad.add (i.toNat * 28)).off + 26, none⟩ = some (.int .i64 (rd_T32 xs i).f15) ∧ w.cell? ⟨(ad.add (i.toNat * 28)).block, (ad.add (i.toNat * 28)).off + 27, none⟩ = some (.int .i64 (rd_T32 xs i).f16) ∧ (rd_T32 xs i).f0.f2.f0.length ≤ c2 ∧ k68.C w A2 (rd_T32 xs i).f0.f2.f0.length (rd_T32 xs i).f0.f2.f0 ∧ (rd_T32 xs i).f1.f2.f0.length ≤ c8 ∧ k68.C w A8 (rd_T32 xs i).f1.f2.f0.length (rd_T32 xs i).f1.f2.f0 ∧ (rd_T32 xs i).f4.length ≤ c14 ∧ (Kd.int .i32).C w A14 (rd_T32 xs i).f4.length (rd_T32 xs i).f4 ∧ (rd_T32 xs i).f7.f0.length ≤ c17 ∧ k68.C w A17 (rd_T32 xs i).f7.f0.length (rd_T32 xs i).f7.f0 ∧ (rd_T32 xs i).f10.length ≤ c21 ∧ k71.C w A21 (rd_T32 xs i).f10.length (rd_T32 xs i).f10 ∧ (rd_T32 xs i).f14.length ≤ c25 ∧ k73.C w A25 (rd_T32 xs i).f14.length (rd_T32 xs i).f14 := by
  obtain ⟨ad, c, e, _, hK, hc0⟩ := Kd.C_get h z32 i h0 h1
  have hc : ∀ j u, c[j]? = some u → w.cell? (ad.add (i.toNat * 28 + j)) = some u := hc0
  obtain ⟨A2, c2, A8, c8, A14, c14, A17, c17, A21, c21, A25, c25, rfl, l2, g2, l8, g8, l14, g14, l17, g17, l21, g21, l25, g25⟩ := k32_open hK
  exact ⟨ad, A2, c2, A8, c8, A14, c14, A17, c17, A21, c21, A25, c25, e, hc 0 _ rfl, by rw [← add_field _ _ 1 (by omega)]; exact hc 1 _ rfl, by rw [← add_field _ _ 2 (by omega)]; exact hc 2 _ rfl, by rw [← add_field _ _ 3 (by omega)]; exact hc 3 _ rfl, by rw [← add_field _ _ 4 (by omega)]; exact hc 4 _ rfl, by rw [← add_field _ _ 5 (by omega)]; exact hc 5 _ rfl, by rw [← add_field _ _ 6 (by omega)]; exact hc 6 _ rfl, by rw [← add_field _ _ 7 (by omega)]; exact hc 7 _ rfl, by rw [← add_field _ _ 8 (by omega)]; exact hc 8 _ rfl, by rw [← add_field _ _ 9 (by omega)]; exact hc 9 _ rfl, by rw [← add_field _ _ 10 (by omega)]; exact hc 10 _ rfl, by rw [← add_field _ _ 11 (by omega)]; exact hc 11 _ rfl, by rw [← add_field _ _ 12 (by omega)]; exact hc 12 _ rfl, by rw [← add_field _ _ 13 (by omega)]; exact hc 13 _ rfl, by rw [← add_field _ _ 14 (by omega)]; exact hc 14 _ rfl, by rw [← add_field _ _ 15 (by omega)]; exact hc 15 _ rfl, by rw [← add_field _ _ 16 (by omega)]; exact hc 16 _ rfl, by rw [← add_field _ _ 17 (by omega)]; exact hc 17 _ rfl, by rw [← add_field _ _ 18 (by omega)]; exact hc 18 _ rfl, by rw [← add_field _ _ 19 (by omega)]; exact hc 19 _ rfl, by rw [← add_field _ _ 20 (by omega)]; exact hc 20 _ rfl, by rw [← add_field _ _ 21 (by omega)]; exact hc 21 _ rfl, by rw [← add_field _ _ 22 (by omega)]; exact hc 22 _ rfl, by rw [← add_field _ _ 23 (by omega)]; exact hc 23 _ rfl, by rw [← add_field _ _ 24 (by omega)]; exact hc 24 _ rfl, by rw [← add_field _ _ 25 (by omega)]; exact hc 25 _ rfl, by rw [← add_field _ _ 26 (by omega)]; exact hc 26 _ rfl, by rw [← add_field _ _ 27 (by omega)]; exact hc 27 _ rfl, l2, g2, l8, g8, l14, g14, l17, g17, l21, g21, l25, g25⟩

end Go.Proofs.Ytgennlcbmepchaa.PAll
