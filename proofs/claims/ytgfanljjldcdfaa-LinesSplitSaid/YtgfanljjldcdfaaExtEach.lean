/- The lines' iterator, as whoever ranges over it sees it. -/
import Derived.Test.YtgfanljjldcdfaaExtIndex
import Derived.RangeFuncNested
import Derived.RangeFuncBound
import Derived.RangeFuncCalls
import Derived.RangeFuncLeaves
import Derived.OwnWalkIn
import Derived.TacticsInMore
import Derived.LoopNIn
import Derived.LoopIn
namespace Go.Proofs.Ytgfanljjldcdfaa.PAll
open Go.RowKit Go.Proofs.YtgfanljjldcdfaaW.PrintWords Go.Proofs.YtgfanljjldcdfaaW.PrintLast Go.Proofs.YtgfanljjldcdfaaW.PrintMore
attribute [local go_sem] Oper.semAt_some
set_option linter.unusedVariables false
set_option linter.unusedSimpArgs false

/-- A text's lines. -/
def splitP : List Int → List S32
  | [] => []
  | c :: r => if c = 10 then ⟨[], true⟩ :: splitP r else match splitP r with
    | [] => [⟨[c], false⟩]
    | x :: t => ⟨c :: x.f0, x.f1⟩ :: t
theorem splitP_nil_iff {l : List Int} : splitP l = [] ↔ l = [] := by
  cases l with
  | nil => simp [splitP]
  | cons c r =>
    simp only [splitP]
    split
    · simp
    · split <;> simp
theorem splitP_some {l : List Int} (h : lineLen l < l.length) : splitP l = ⟨l.take (lineLen l), true⟩ :: splitP (l.drop (lineLen l + 1)) := by
  induction l with
  | nil => simp at h
  | cons c r ih =>
    unfold lineLen at h ⊢
    simp only [splitP]
    split
    · simp
    · rename_i hc
      rw [if_neg hc] at h
      rw [ih (by simpa using h)]
      simp
theorem splitP_none {l : List Int} (h : lineLen l = l.length) (h0 : 0 < l.length) : splitP l = [⟨l, false⟩] := by
  induction l with
  | nil => simp at h0
  | cons c r ih =>
    unfold lineLen at h
    simp only [splitP]
    split
    · rename_i hc; rw [if_pos hc] at h; simp at h
    · rename_i hc
      rw [if_neg hc] at h
      cases r with
      | nil => simp [splitP]
      | cons d r => rw [ih (by simpa using h) (by simp)]
theorem splitP_length (l : List Int) : (splitP l).length ≤ l.length := by
  induction l with
  | nil => simp [splitP]
  | cons c r ih =>
    simp only [splitP]
    split
    · simpa using ih
    · cases h : splitP r with
      | nil => simp
      | cons x t => rw [h] at ih; simp at ih ⊢; omega

/-- What a round of the lines' iterator owes, of whoever ranges over it. -/
def RoundOwes (w0 : World) (Bn l n tot : Nat) (J : List S32 → World → Prop) : Prop :=
  ∀ (xs : List S32) (x : S32) (ad : Addr) (c : Nat) (W : World) (A : Value), J xs W → W.heap[Bn]? = some (.cells #[A] 23 (0, 0)) → (Kd.int .i32).C w0 (some ad) x.f0.length x.f0 → x.f0.length ≤ c → xs.length + 1 ≤ tot → x.f0.length ≤ tot →
    YieldAt Fence.wide n Try.prog l #[.agg #[.slice (some ad) x.f0.length c, .bool x.f1]] W fun e W' => e = .returned (.bool true) ∧ J (xs ++ [x]) W' ∧ W'.heap[Bn]? = some (.cells #[A] 23 (0, 0))

theorem cut_take (ad : Addr) (c : Nat) (l : List Int) (i : Nat) (h : i < l.length) (hc : l.length ≤ c) :
    ∀ W : World, (Instr.slice 23 (.slice (some ad) l.length c) none (some (.int .i64 (i : Int))) none).run Try.prog W = .ok (.slice (some ad) i c) W := by
  obtain ⟨i0, hi0, hz0⟩ := Option.map_eq_some_iff.1 info25
  have hsz : i0.size = 1 := by simp only [Prod.mk.injEq] at hz0; exact hz0.2.1
  have := (print_take_of (P := Try.prog) (Value.int .i32) (0 : Int) 23 25 .i64 Try.underlying23 hi0 hsz (some ad) c l (i : Int) (by omega) (by omega) hc).1
  simpa [Nat.min_eq_left (Nat.le_of_lt h)] using this
theorem cut_drop (ad : Addr) (c : Nat) (l : List Int) (i : Nat) (h : i < l.length) (hc : l.length ≤ c) :
    ∃ A' : Option Addr, (∀ W : World, (Instr.slice 23 (.slice (some ad) l.length c) (some (.int .i64 ((i : Int) + 1))) none none).run Try.prog W = .ok (.slice A' (l.length - (i + 1)) (c - (i + 1))) W) ∧
      (∀ w : World, (Kd.int .i32).C w (some ad) l.length l → (Kd.int .i32).C w A' (l.drop (i + 1)).length (l.drop (i + 1))) ∧ (l.drop (i + 1)).length ≤ c - (i + 1) := by
  obtain ⟨i0, hi0, hz0⟩ := Option.map_eq_some_iff.1 info25
  have hsz : i0.size = 1 := by simp only [Prod.mk.injEq] at hz0; exact hz0.2.1
  refine ⟨if c = i + 1 then some ad else (some ad).map (·.add ((i + 1) * 1)), fun W => ?_, fun w hC => Kd.C_drop (m := i + 1) hC (by omega) hc, by rw [List.length_drop]; omega⟩
  have hel : Try.prog.elem 23 = 25 := by simp [Program.elem, Try.underlying23]
  have hu : Try.prog.underlying 23 = some (.slice (Try.prog.elem 23)) := by rw [hel]; exact Try.underlying23
  rw [run_slice_l W 23 (some ad) l.length c hu .i64 ((i : Int) + 1) (by omega) (by omega), hel]
  have e : ((i : Int) + 1).toNat = i + 1 := by omega
  simp [sizeOf, typeInfo, hi0, hsz, sliced, Result.andThen, e]
theorem grown_set (W : World) (g i : Nat) (v : Value) : W.grownBy (W.setCell ⟨g, i, none⟩ v) (some g) := by
  have h := (Below.refl 0 W).setCell (p := ⟨g, i, none⟩) (Nat.zero_le _) v
  exact ⟨h.os, h.tape, h.output, h.size, fun k hk hne => Below.heap_setCell W _ v k (fun e => hne (by rw [e]))⟩
/-- How many cells are to come. -/
def leftN (Bn : Nat) (W : World) : Nat := match W.cell? ⟨Bn, 0, none⟩ with
  | some (.slice _ n _) => n
  | _ => 0
theorem leftN_eq {Bn : Nat} {W : World} {A : Option Addr} {n c : Nat} (h : W.heap[Bn]? = some (.cells #[.slice A n c] 23 (0, 0))) : leftN Bn W = n := by
  unfold leftN
  rw [show W.cell? ⟨Bn, 0, none⟩ = some (.slice A n c) from blk_cell h 0]
set_option maxRecDepth 100000 in
theorem each1_calls (w0 : World) (Bn l n : Nat) (J : List S32 → World → Prop) (hJB : ∀ xs W, J xs W → Below w0.heap.size w0 W) (hJg : ∀ xs W W', J xs W → W.grownBy W' (some Bn) → J xs W') (hBn : w0.heap.size ≤ Bn)
    (A : Option Addr) (c : Nat) (l0 : List Int) (hC : (Kd.int .i32).C w0 A l0.length l0) (hc : l0.length ≤ c) (hn : l0.length < 1099511627776) (hY : RoundOwes w0 Bn l (n - 1) l0.length J) (W : World) (h0 : J [] W) (hB : W.heap[Bn]? = some (.cells #[.slice A l0.length c] 23 (0, 0))) :
    CallsIn Fence.wide n Try.prog 23 #[.func (.yield l) #[] #[], .pointer (some ⟨Bn, 0, none⟩)] W fun e W' => (∃ v, e = .returned v) ∧ J (splitP l0) W' := by
  refine callsIn_of_wp Try.func23 rfl trivial ?_ rfl
  simp only [Try.ntmps23, List.size_toArray, List.length_cons, List.length_nil, Nat.reduceAdd, Nat.reduceSub, Array.replicate_succ, Array.replicate_zero, List.push_toArray, List.append_toArray, List.nil_append, List.cons_append]
  have HJB := Aside0.mk hJB
  have HJG := Aside0.mk hJg
  have HC := Aside0.mk hC
  have HN := Aside0.mk hn
  have HY := Aside0.mk hY
  have H0 := Aside0.mk (show J [] W ∧ l0.length ≤ c ∧ W.heap[Bn]? = some (.cells #[.slice A l0.length c] 23 (0, 0)) from ⟨h0, hc, hB⟩)
  clear hJB hJg hC hn hY h0 hB hc
  gi_wp2
  gi_loopw [3] (fun _ wr => ∃ (A : Option Addr) (c : Nat) (m : List Int) (xs : List S32), Aside0 (wr.heap[Bn]? = some (.cells #[.slice A m.length c] 23 (0, 0))) ∧ Aside0 ((Kd.int .i32).C w0 A m.length m ∧ m.length ≤ c) ∧ Aside0 (xs ++ splitP m = splitP l0 ∧ xs.length + m.length ≤ l0.length) ∧ Aside0 (J xs wr)) (fun _ wr => leftN Bn wr)
  case atStart => exact ⟨A, c, l0, [], ⟨H0.out.2.2⟩, ⟨HC.out, H0.out.2.1⟩, ⟨by simp, by simp⟩, ⟨H0.out.1⟩⟩
  case round =>
    clear HC H0
    obtain ⟨A, c, m, xs, HB, HC, HX, HJ⟩ := hrel
    have k0 : wr.cell? ⟨Bn, 0, none⟩ = some (.slice A m.length c) := (blk_cell HB.out 0).trans rfl
    have kf := blk_frozen HB.out 0
    rcases m with _ | ⟨z, m⟩
    · gi_wp2
      go_end0
      exact ⟨⟨_, rfl⟩, by have := HX.out.1; rw [splitP, List.append_nil] at this; exact this ▸ HJ.out⟩
    · obtain ⟨ad, rfl, _⟩ := HC.out.1.2.2 (by simp)
      have HCW := Aside0.mk (Kd.C_below HC.out.1 (HJB.out _ _ HJ.out))
      have b0 : (0 : Int) < ((z :: m).length : Int) := by simp
      have b1 : decide (0 < (z :: m).length) = true := by simp
      have HN2 := Aside0.mk (show (z :: m).length < 1099511627776 by have := HX.out.2; have := HN.out; omega)
      by_cases hf : lineLen (z :: m) < (z :: m).length
      · have HF := Aside0.mk hf
        have HZ := Aside0.mk (splitP_some hf)
        clear hf
        generalize hmm : z :: m = mm at *
        have HM := Aside0.mk hmm
        clear hmm
        have hii : ∃ ii, ii = lineLen mm := ⟨_, rfl⟩
        obtain ⟨ii, hii⟩ := hii
        have HI := Aside0.mk hii
        have hlt : ii < mm.length := hii ▸ HF.out
        have hle : ((ii : Nat) : Int) ≤ mm.length := by omega
        have hle1 : ((ii : Nat) : Int) + 1 ≤ mm.length := by omega
        have hcc : mm.length ≤ c := HC.out.2
        have hw : wrap64 ((ii : Int) + 1) = (ii : Int) + 1 := small_wrap (Nat.lt_trans hlt HN2.out)
        have ht1 := cut_take ad c mm ii hlt hcc
        obtain ⟨A2, hd1, hd2, hd3⟩ := cut_drop ad c mm ii hlt hcc
        have HA2 := Aside0.mk (And.intro hd2 hd3)
        have HCT := Aside0.mk (Kd.C_take HC.out.1 (Nat.le_of_lt hlt))
        have HTL := Aside0.mk (show (mm.take ii).length ≤ c ∧ (mm.take ii).length ≤ l0.length by rw [List.length_take]; have := HX.out.2; omega)
        obtain ⟨fn, tmps, assign, body, hy, hR⟩ := HY.out xs ⟨mm.take ii, true⟩ ad c wr _ HJ.out HB.out HCT.out HTL.out.1 (by have := HX.out.2; omega) HTL.out.2
        dsimp only at hy
        rw [show (mm.take ii).length = ii by rw [List.length_take]; omega] at hy
        have hlt0 : decide ((ii : Int) < 0) = false := by simp
        clear hd2 hd3 hii hcc
        gi_wp2_with (first | (refine ⟨trivial, (fun h_ => by cases h_), ?_⟩; gi_at_call 24; (refine (callsIn_wide.2 (index_some ad c mm _ HCW.out HN2.out HF.out)).mono ?_); rw [← HI.out]; rintro e w' ⟨rfl, rfl⟩))
        refine ⟨(fun h_ => by cases h_), hR.mono ?_⟩
        rintro e W' ⟨rfl, hJ', hB'⟩
        have k1 : W'.cell? ⟨Bn, 0, none⟩ = some (.slice (some ad) mm.length c) := blk_cell hB' 0
        have kf1 := blk_frozen hB' 0
        have HB' := Aside0.mk hB'
        have HJ' := Aside0.mk hJ'
        clear hB' hJ'
        gi_wp2
        go_roundw
        case rel => exact ⟨A2, c - (ii + 1), mm.drop (ii + 1), xs ++ [⟨mm.take ii, true⟩], ⟨by rw [List.length_drop]; exact blk_put HB'.out 0 _ rfl⟩, ⟨HA2.out.1 _ HC.out.1, HA2.out.2⟩, ⟨by rw [← HX.out.1, HZ.out, HI.out]; simp, by have := HX.out.2; simp; omega⟩, ⟨HJG.out _ _ _ HJ'.out (grown_set _ _ _ _)⟩⟩
        case measure => rw [leftN_eq HB.out, leftN_eq (blk_put HB'.out 0 _ rfl)]; omega
      · have HF := Aside0.mk (show lineLen (z :: m) = (z :: m).length by have := lineLen_le (z :: m); omega)
        clear hf
        generalize hmm : z :: m = mm at *
        obtain ⟨fn, tmps, assign, body, hy, hR⟩ := HY.out xs ⟨mm, false⟩ ad c wr _ HJ.out HB.out HC.out.1 HC.out.2 (by have := HX.out.2; rw [← hmm] at this; simp at this; omega) (by have := HX.out.2; show mm.length ≤ _; omega)
        dsimp only at hy
        gi_wp2_with (first | (refine ⟨trivial, (fun h_ => by cases h_), ?_⟩; gi_at_call 24; (refine (callsIn_wide.2 (index_none ad c mm _ HCW.out HN2.out HF.out)).mono ?_); rintro e w' ⟨rfl, rfl⟩))
        refine ⟨(fun h_ => by cases h_), hR.mono ?_⟩
        rintro e W' ⟨rfl, hJ', hB'⟩
        gi_wp2
        refine bodyPost_ret (results_none rfl _ _ _) rfl ?_
        exact ⟨⟨_, rfl⟩, by have := HX.out.1; rw [splitP_none HF.out (by rw [← hmm]; simp)] at this; exact this ▸ hJ'⟩
end Go.Proofs.Ytgfanljjldcdfaa.PAll
