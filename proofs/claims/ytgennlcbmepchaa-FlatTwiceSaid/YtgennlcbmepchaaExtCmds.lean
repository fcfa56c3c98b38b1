/- Cmds' walk. (Written by wip/flat/gen_cmds.py.) -/
import Derived.Test.YtgennlcbmepchaaExtLabels
namespace Go.Proofs.Ytgennlcbmepchaa.PAll
open Go.RowKit Go.Maps Go.WideMaps Go.Proofs.YtgennlcbmepchaaW.PrintWords Go.Proofs.YtgennlcbmepchaaW.PrintLast Go.Proofs.YtgennlcbmepchaaW.PrintMore
set_option linter.unusedVariables false
set_option linter.unusedSimpArgs false
section
variable {P : Program} {ops : Array Oper} {rest : List Oper} {o : Oper} {a : Act} {Q : Exit → Act → World → Prop}
/-- A list that is written out lies in a block of its own. -/
theorem lit_event {W : World} (hgd : o.guard = none) {N : Tmp} (_hd : o.dst = some N) {cs : Array Value} {t : TypeId} {n : Nat}
    (hrun : (execOp a.eval o).run P W = .ok (.value (.slice (some ⟨W.heap.size, 0, none⟩) n n)) (W.alloc (.cells cs t (0, 0))))
    (h : ∀ g, g = W.heap.size → ∀ w1, w1.heap[g]? = some (.cells cs t (0, 0)) → Below W.heap.size W w1 → wpList P ops Q rest (a.put o.dst (.slice (some ⟨g, 0, none⟩) n n)) w1) : wpList P ops Q (o :: rest) a W :=
  Kd.event_run hgd hrun (h _ rfl _ (blk_new W _) (below_alloc (Below.refl _ _) _))
end
/-- A command: its sign, its label, where it leads to, its place. -/
def cmdS (op : Int) (lab : ByteArray) (j p : Int) : S32 := { z32 with f3 := op, f5 := lab, f15 := j, f16 := p }
@[reducible] def cmdQ (op : Int) (lab : ByteArray) (j p : Int) : List Value := [.int .u8 0, .int .i64 0, .slice none 0 0, .int .i64 0, .bool false, .bool false, .int .u8 0, .int .i64 0, .slice none 0 0, .int .i64 0, .bool false, .bool false, .bool false, .int .u8 op, .slice none 0 0, .string lab, .string ⟨#[]⟩, .slice none 0 0, .int .i64 0, .bool false, .bool false, .slice none 0 0, .int .i64 0, .bool false, .bool false, .slice none 0 0, .int .i64 j, .int .i64 p]
theorem FK_cmdS (W : World) (ok : Nat → Prop) (op : Int) (lab : ByteArray) (j p : Int) : Kd.FK k32 W ok (cmdS op lab j p) (cmdQ op lab j p) :=
  k32_mkF W ok (cmdS op lab j p) (A2 := none) (c2 := 0) (Nat.le_refl 0) (Kd.F_nil _ _ _) (A8 := none) (c8 := 0) (Nat.le_refl 0) (Kd.F_nil _ _ _) (A14 := none) (c14 := 0) (Nat.le_refl 0) (Kd.F_nil _ _ _) (A17 := none) (c17 := 0) (Nat.le_refl 0) (Kd.F_nil _ _ _) (A21 := none) (c21 := 0) (Nat.le_refl 0) (Kd.F_nil _ _ _) (A25 := none) (c25 := 0) (Nat.le_refl 0) (Kd.F_nil _ _ _)
section
variable {o : Oper} {a : Act} {ops : Array Oper} {rest : List Oper} {Q : Exit → Act → World → Prop}
theorem append_cmdS {w0 W : World} (base : Nat) (hgd : o.guard = none) (s x : Operand) (ho : o.op = .call { callee := .builtin .append, args := #[s, x], argTypes := #[22, 22] })
    (v : Value) (xs : List S32) (op : Int) (lab : ByteArray) (j p : Int) (hs : a.eval s = v) (hx : a.eval x = .slice (some ⟨W.heap.size, 0, none⟩) 1 1)
    (HO : Kd.N k32 32 W base (fun _ => True) v xs) (HB : Below base w0 W) (hbase : base ≤ W.heap.size) (hl : xs.length < 475464487686)
    (h : ∀ v1 w1, Kd.N k32 32 w1 base (fun _ => True) v1 (xs ++ [cmdS op lab j p]) → Below base w0 w1 → wpList Try.prog ops Q rest (a.put o.dst v1) w1) :
    wpList Try.prog ops Q (o :: rest) a (W.alloc (.cells (cmdQ op lab j p).toArray 32)) :=
  Kd.N_append k32 base hgd s x 22 32 _ 296 ho Try.underlying22 info32 rfl (by decide) (by omega) v xs (cmdS op lab j p) (cmdQ op lab j p) (fun _ => True) (fun _ => False) hs hx (FK_cmdS W _ op lab j p) (fun _ hk => hk.elim) (fun _ _ => trivial) HO HB hbase (room32 hl) (fun v1 w1 hN hb _ _ => h v1 w1 hN hb)
end
theorem cmdQ_one {op : Int} {lab : ByteArray} {j p : Int} : ∀ v ∈ cmdQ op lab j p, v.oneCell' = true := by
  intro v hv
  simp only [cmdQ, List.mem_cons, List.not_mem_nil, or_false] at hv
  rcases hv with rfl | rfl | rfl | rfl | rfl | rfl | rfl | rfl | rfl | rfl | rfl | rfl | rfl | rfl | rfl | rfl | rfl | rfl | rfl | rfl | rfl | rfl | rfl | rfl | rfl | rfl | rfl | rfl <;> rfl
/-- What is made up so far, beside a box. -/
structure Box (w : World) (g : Nat) (v : Value) (xs : List S32) (c : List Value) (W : World) : Prop where
  n : Kd.N k32 32 W w.heap.size (fun k => True ∧ k < g) v xs
  b : Below w.heap.size w W
  ge : w.heap.size ≤ g
  box : W.heap[g]? = some (.cells c.toArray 32 (0, 0))
section
variable {w W W' : World} {g : Nat} {v : Value} {xs : List S32} {c c' : List Value}
theorem Box.put (h : Box w g v xs c W) (hb : W'.heap[g]? = some (.cells c'.toArray 32 (0, 0))) (hg : W.grownBy W' (some g)) : Box w g v xs c' W' :=
  ⟨Kd.N_grown h.n hg (fun k hk => by intro e; injection e with e; have := hk.2; omega), h.b.grown hg h.b.size (fun k hk => by cases hk; exact h.ge), h.ge, hb⟩
theorem Box.below (h : Box w g v xs c W) (hb : Below W.heap.size W W') : Box w g v xs c W' :=
  ⟨Kd.N_below h.n hb, h.b.trans (hb.mono h.b.size), h.ge, blk_below h.box hb⟩
theorem Box.set (h : Box w g v xs c W) (i : Nat) (u : Value) (hc : (c.toArray.setIfInBounds i u) = c'.toArray) : Box w g v xs c' (W.setCell ⟨g, i, none⟩ u) :=
  ⟨Kd.N_far h.n (fun k hk => by intro e; have e2 : k = g := e; have := hk.2; omega) u, below_set h.b h.ge, h.ge, by rw [← hc]; exact blk_set h.box i u⟩
theorem Box.start (hN : Kd.N k32 32 W w.heap.size (fun _ => True) v xs) (hB : Below w.heap.size w W) (hgc : g = W.heap.size) (hb2 : Below W.heap.size W W') (hbox : W'.heap[g]? = some (.cells c.toArray 32 (0, 0))) : Box w g v xs c W' :=
  ⟨by rw [hgc]; exact Kd.N_below (Kd.N_bound hN) hb2, hB.trans (hb2.mono hB.size), by rw [hgc]; exact hB.size, hbox⟩
theorem lit_cell {W : World} {cs : Array Value} {t : TypeId} (h : W.heap[g]? = some (.cells cs t (0, 0))) {j : Nat} {u : Value} (hu : cs[j]? = some u) : W.cell? ⟨g, j, none⟩ = some u := (blk_cell h j).trans hu
end

/-! What Cmds comes to. -/
def opTab : List Int := [123, 125, 112, 98, 116, 58, 123, 125]
def labTab : List ByteArray := [⟨#[]⟩, ⟨#[120]⟩, ⟨#[121]⟩, ⟨#[122]⟩]
def opOf (x : Int) : Int := opTab.getD (x % 8).toNat 0
def lab0 (x : Int) : ByteArray := labTab.getD (x / 8 % 4).toNat ByteArray.empty
def labOf (x : Int) : ByteArray := if opOf x = 98 ∨ opOf x = 116 then lab0 x else if opOf x = 58 then (if 127 < x then lab0 x ++ strOfNums [48 + x / 32] else lab0 x) else ByteArray.empty
def cmdOf (k : Nat) (x : Int) : S32 := cmdS (opOf x) (labOf x) (x / 100) (2 * (k : Int) + 1)
def cmdsL (l : List Int) (k : Nat) : List S32 := (List.range k).map fun i => cmdOf i (l.getD i 0)
theorem cmdsL_succ (l : List Int) (k : Nat) : cmdsL l k ++ [cmdOf k (l.getD k 0)] = cmdsL l (k + 1) := by simp [cmdsL, List.range_succ]
theorem cmdsL_length (l : List Int) (k : Nat) : (cmdsL l k).length = k := by simp [cmdsL]
theorem cmdsL_room {l : List Int} {k : Nat} (h : k < 30) : (cmdsL l k).length < 475464487686 := by rw [cmdsL_length]; omega
@[reducible] def vals8 : Array Value := #[.int .u8 123, .int .u8 125, .int .u8 112, .int .u8 98, .int .u8 116, .int .u8 58, .int .u8 123, .int .u8 125]
@[reducible] def vals4 : Array Value := #[.string ⟨#[]⟩, .string ⟨#[120]⟩, .string ⟨#[121]⟩, .string ⟨#[122]⟩]
theorem byte_cell {w : World} {ad : Addr} {l0 : List Int} (h : Kd.C (Kd.int .u8) w (some ad) l0.length l0) {k : Nat} (hk : k < l0.length) : w.cell? (ad.add k) = some (.int .u8 (l0.getD k 0)) := by
  obtain ⟨ad', c, e, hl, hK, hc⟩ := Kd.C_get h 0 (k : Int) (by omega) (by omega)
  cases e
  have hK' : c = [.int .u8 (l0.getD ((k : Int)).toNat 0)] := hK
  subst hK'
  have := hc 0 _ rfl
  simpa [Kd.int, Kd.scalar] using this
theorem cmd_plain {k : Nat} {x op : Int} (h : opOf x = op) (h1 : op ≠ 98) (h2 : op ≠ 116) (h3 : op ≠ 58) : cmdOf k x = cmdS op ByteArray.empty (x / 100) (2 * (k : Int) + 1) := by
  unfold cmdOf labOf
  rw [h, if_neg (by omega), if_neg h3]
theorem cmd_lab {k : Nat} {x op : Int} (h : opOf x = op) (h1 : op = 98 ∨ op = 116) : cmdOf k x = cmdS op (lab0 x) (x / 100) (2 * (k : Int) + 1) := by
  unfold cmdOf labOf
  rw [h, if_pos h1]
theorem cmd_long {k : Nat} {x : Int} (h : opOf x = 58) (h1 : 127 < x) : cmdOf k x = cmdS 58 (lab0 x ++ strOfNums [48 + x / 32]) (x / 100) (2 * (k : Int) + 1) := by
  unfold cmdOf labOf
  rw [h, if_neg (by omega), if_pos rfl, if_pos h1]
theorem cmd_short {k : Nat} {x : Int} (h : opOf x = 58) (h1 : ¬ 127 < x) : cmdOf k x = cmdS 58 (lab0 x) (x / 100) (2 * (k : Int) + 1) := by
  unfold cmdOf labOf
  rw [h, if_neg (by omega), if_pos rfl, if_neg h1]
theorem lab0_size (x : Int) : (lab0 x).size ≤ 1 := by
  unfold lab0
  have : (x / 8 % 4).toNat < 4 := by omega
  rcases (by omega : (x / 8 % 4).toNat = 0 ∨ (x / 8 % 4).toNat = 1 ∨ (x / 8 % 4).toNat = 2 ∨ (x / 8 % 4).toNat = 3) with h | h | h | h <;> rw [h] <;> decide
theorem str1_size (y : Int) : (strOfNums [y]).size = 1 := rfl
theorem long_size (x : Int) : (lab0 x).size + (strOfNums [48 + x / 32]).size ≤ 9223372036854775807 := by
  have := lab0_size x
  have := str1_size (48 + x / 32)
  omega
theorem conv_byte {W : World} {g : Nat} {y : Int} (h : W.heap[g]? = some (.cells #[.int .u8 y] 5 (0, 0))) : (convert 39 9 (.slice (some ⟨g, 0, none⟩) 1 1)).run Try.prog W = .ok (.string (strOfNums [y])) W := by
  refine string_of_reads Try.underlying39 Try.underlying5 Try.underlying9 ⟨rfl, by omega, fun _ => ⟨_, rfl, fun j hj => ?_⟩⟩
  obtain rfl : j = 0 := by omega
  exact lit_cell h rfl
def cmds_T10 : Bool × List (List Nat × List Nat) := (true, [([], []), ([0], [0]), ([], []), ([], []), ([2, 3], [2, 3]), ([4], [4]), ([5], [5]), ([6], [6]), ([7], [7]), ([8], [8]), ([1, 9], [1, 9]), ([0, 1, 2, 3, 4, 5, 6, 7, 8, 9, 10], []), ([11, 10, 0, 1, 2, 3, 4, 5, 6, 7, 8, 9, 10], [10, 11])])
def cmds_B10 : List Nat := [0, 1, 0, 0, 12, 28, 60, 124, 252, 508, 1023, 2047, 4095]
theorem cmds_tab10 : rtab .any (opsOf Try.f9 10) = cmds_T10 := by kernel_rfl
theorem cmds_bits10 : waitsOk cmds_T10.2 cmds_B10 = true := by kernel_rfl
theorem wrap_byte {x : Int} (h0 : 0 ≤ x) (h1 : x < 256) : IntKind.u8.wrap (48 + IntKind.u8.wrap (x.tdiv 32)) = 48 + x / 32 := by
  rw [IntKind.wrap_u8, IntKind.wrap_u8, Int.tdiv_eq_ediv_of_nonneg h0]
  omega
theorem lab0_cell {x : Int} : vals4[(x / 8 % 4).toNat]? = some (.string (lab0 x)) := by
  unfold lab0
  have : (x / 8 % 4).toNat < 4 := by omega
  rcases (by omega : (x / 8 % 4).toNat = 0 ∨ (x / 8 % 4).toNat = 1 ∨ (x / 8 % 4).toNat = 2 ∨ (x / 8 % 4).toNat = 3) with h | h | h | h <;> rw [h] <;> rfl
theorem size9 : (Try.prog.info? 9).map (·.size) = some 1 := by kernel_rfl
set_option maxHeartbeats 2000000 in
set_option maxRecDepth 100000 in
theorem cmds_calls (ad : Addr) (c0 : Nat) (l0 : List Int) (w : World) (hr0 : Kd.C (Kd.int .u8) w (some ad) l0.length l0) (hz : ∀ k, k < l0.length → 0 ≤ l0.getD k 0 ∧ l0.getD k 0 < 256) :
    Calls Try.prog 9 #[.slice (some ad) l0.length c0] w fun e w' => ∃ v : Value, e = .returned v ∧ Kd.N k32 32 w' w.heap.size (fun _ => True) v (cmdsL l0 (min l0.length 30)) ∧ Below w.heap.size w w' := by
  have HC := Aside0.mk hr0
  have HZ := Aside0.mk hz
  clear hr0 hz
  go_enter Try.func9, Try.ntmps9
  go_wp2
  go_loopw [3, 4] (fun v3 v4 wr => ∃ k : Nat, Aside0 (k ≤ 30) ∧ Aside0 (k ≤ l0.length) ∧ v4 = .int .i64 k ∧ Aside0 (Kd.N k32 32 wr w.heap.size (fun _ => True) v3 (cmdsL l0 k)) ∧ Aside0 (Below w.heap.size w wr)) (fun _ v4 _ => 30 - (intOf v4).toNat)
  case atStart => exact ⟨0, ⟨Nat.zero_le _⟩, ⟨Nat.zero_le _⟩, rfl, ⟨Kd.N_nil _ _ _ _ _⟩, ⟨Below.refl _ _⟩⟩
  case round =>
    obtain ⟨k, hk, hkl, rfl, HO, HB⟩ := hrel
    by_cases hlt : k < l0.length
    · have b0 : (k : Int) < l0.length := by omega
      by_cases h30 : k < 30
      · have b1 : (k : Int) < 30 := by omega
        have b2 : (0 : Int) ≤ k := by omega
        have HK := Aside0.mk h30
        have HL := Aside0.mk hlt
        have hwk : wrap64 ((k : Int) + 1) = (k : Int) + 1 := wrap_small (by omega) (by omega)
        obtain ⟨hx0, hx1⟩ := HZ.out k hlt
        have HQ := Aside0.mk (byte_cell HC.out hlt)
        obtain ⟨x, hx⟩ : ∃ x, l0.getD k 0 = x := ⟨_, rfl⟩
        rw [hx] at hx0 hx1 HQ
        have HX := Aside0.mk hx
        clear hx hlt h30
        have q0 := cell_below5 HB.out HQ.out
        obtain ⟨j4, hj4⟩ : ∃ j4 : Nat, (x / 8 % 4).toNat = j4 := ⟨_, rfl⟩
        have H4 := Aside0.mk (lab0_cell (x := x))
        rw [hj4] at H4
        have h4 : x / 8 % 4 = (j4 : Int) := by omega
        have b4 : (j4 : Int) < 4 := by omega
        clear hj4
        rcases (by omega : x % 8 = 0 ∨ x % 8 = 1 ∨ x % 8 = 2 ∨ x % 8 = 3 ∨ x % 8 = 4 ∨ x % 8 = 5 ∨ x % 8 = 6 ∨ x % 8 = 7) with h8 | h8 | h8 | h8 | h8 | h8 | h8 | h8
        · have HE := Aside0.mk (cmd_plain (k := k) (x := x) (op := 123) (by unfold opOf; rw [h8]; rfl) (by decide) (by decide) (by decide)).symm
          go_wp2_with (first | ((with_reducible refine gate_dst (N := 17) rfl ?_); (refine lit_event ?hg (N := 17) ?hd (cs := vals8) (t := 5) (n := 8) ?hr ?_); (case hd => rfl); (case hg => rfl); (case hr => first | (go_simp; done) | (go_simp; rfl)); intro g1 hg1 w1 hb1 hB1; have q1 := lit_cell hb1 (j := 0) rfl; have HO1 := Aside0.mk (Kd.N_below HO.out hB1); have HB1 := Aside0.mk (HB.out.trans (hB1.mono HB.out.size)); clear HO HB hg1 hb1 hB1 q0; have HO := HO1; have HB := HB1; clear HO1 HB1; have q0 := cell_below5 HB.out HQ.out) | ((with_reducible refine gate_dst (N := 6) rfl ?_); (refine box_event ?hg (N := 6) ?hd (cs := zero32) (t := 32) ?hr ?_); (case hd => rfl); (case hg => rfl); (case hr => first | (go_simp; done) | (go_simp; rfl)); intro gc hgc w2 hbox hb2; have MB := Aside0.mk (Box.start (c := zero32.toList) HO.out HB.out hgc hb2 (by simpa using hbox)); clear hbox hb2 hgc HO HB) | ((with_reducible refine gate_store (t := 32) (p := 6) (v := .tmp 35) rfl ?_); (refine store_whole rfl rfl 32 (.tmp 6) (.tmp 35) rfl gc (cmdQ 123 ByteArray.empty (x / 100) (2 * (k : Int) + 1)) ?hx ?hy _ MB.out.box (size32 rfl) ?ho cmdQ_one ?_); (case hx => rfl); (case hy => first | rfl | (go_simp; done) | (go_simp; rfl)); (case ho => rfl); intro w3 hb3 hg3; have M1 := Aside0.mk (MB.out.put hb3 hg3); clear MB q0 hb3 hg3; have MB := M1; clear M1; have q0 := cell_below5 MB.out.b HQ.out) | ((with_reducible refine gate_dst (N := 78) rfl ?_); (refine load_whole rfl 32 _ rfl ⟨gc, 0, none⟩ ?hx Try.underlying32 (cmdQ 123 ByteArray.empty (x / 100) (2 * (k : Int) + 1)) (size32 rfl) (box_cells MB.out.box) ?_); (case hx => first | rfl | (simp [Act.eval]; done)); have HO := Aside0.mk (Kd.N_mono MB.out.n (fun _ _ => trivial)); have HB := Aside0.mk MB.out.b; clear MB) | ((with_reducible refine gate_builtin (b := .append) (xs := #[.tmp 77, .tmp 79]) rfl ?_); at_builtin; refine append_cmdS (w0 := w) w.heap.size rfl (.tmp 77) (.tmp 79) rfl _ (cmdsL l0 k) 123 ByteArray.empty (x / 100) (2 * (k : Int) + 1) ?aS ?aX HO.out HB.out HB.out.size (cmdsL_room HK.out) ?_; (case aS => first | rfl | (go_simp; done)); (case aX => first | rfl | (go_simp; done)); intro v1 w5 hN hb; have HO1 := Aside0.mk (cmdsL_succ l0 k ▸ HX.out ▸ HE.out ▸ hN); have HB1 := Aside0.mk hb; clear hN hb HO HB))
          go_roundw
          case rel => exact ⟨k + 1, ⟨HK.out⟩, ⟨HL.out⟩, by rw [Int.natCast_succ], HO1, HB1⟩
          case measure => exact meas_of HK.out
        · have HE := Aside0.mk (cmd_plain (k := k) (x := x) (op := 125) (by unfold opOf; rw [h8]; rfl) (by decide) (by decide) (by decide)).symm
          go_wp2_with (first | ((with_reducible refine gate_dst (N := 17) rfl ?_); (refine lit_event ?hg (N := 17) ?hd (cs := vals8) (t := 5) (n := 8) ?hr ?_); (case hd => rfl); (case hg => rfl); (case hr => first | (go_simp; done) | (go_simp; rfl)); intro g1 hg1 w1 hb1 hB1; have q1 := lit_cell hb1 (j := 1) rfl; have HO1 := Aside0.mk (Kd.N_below HO.out hB1); have HB1 := Aside0.mk (HB.out.trans (hB1.mono HB.out.size)); clear HO HB hg1 hb1 hB1 q0; have HO := HO1; have HB := HB1; clear HO1 HB1; have q0 := cell_below5 HB.out HQ.out) | ((with_reducible refine gate_dst (N := 6) rfl ?_); (refine box_event ?hg (N := 6) ?hd (cs := zero32) (t := 32) ?hr ?_); (case hd => rfl); (case hg => rfl); (case hr => first | (go_simp; done) | (go_simp; rfl)); intro gc hgc w2 hbox hb2; have MB := Aside0.mk (Box.start (c := zero32.toList) HO.out HB.out hgc hb2 (by simpa using hbox)); clear hbox hb2 hgc HO HB) | ((with_reducible refine gate_store (t := 32) (p := 6) (v := .tmp 35) rfl ?_); (refine store_whole rfl rfl 32 (.tmp 6) (.tmp 35) rfl gc (cmdQ 125 ByteArray.empty (x / 100) (2 * (k : Int) + 1)) ?hx ?hy _ MB.out.box (size32 rfl) ?ho cmdQ_one ?_); (case hx => rfl); (case hy => first | rfl | (go_simp; done) | (go_simp; rfl)); (case ho => rfl); intro w3 hb3 hg3; have M1 := Aside0.mk (MB.out.put hb3 hg3); clear MB q0 hb3 hg3; have MB := M1; clear M1; have q0 := cell_below5 MB.out.b HQ.out) | ((with_reducible refine gate_dst (N := 78) rfl ?_); (refine load_whole rfl 32 _ rfl ⟨gc, 0, none⟩ ?hx Try.underlying32 (cmdQ 125 ByteArray.empty (x / 100) (2 * (k : Int) + 1)) (size32 rfl) (box_cells MB.out.box) ?_); (case hx => first | rfl | (simp [Act.eval]; done)); have HO := Aside0.mk (Kd.N_mono MB.out.n (fun _ _ => trivial)); have HB := Aside0.mk MB.out.b; clear MB) | ((with_reducible refine gate_builtin (b := .append) (xs := #[.tmp 77, .tmp 79]) rfl ?_); at_builtin; refine append_cmdS (w0 := w) w.heap.size rfl (.tmp 77) (.tmp 79) rfl _ (cmdsL l0 k) 125 ByteArray.empty (x / 100) (2 * (k : Int) + 1) ?aS ?aX HO.out HB.out HB.out.size (cmdsL_room HK.out) ?_; (case aS => first | rfl | (go_simp; done)); (case aX => first | rfl | (go_simp; done)); intro v1 w5 hN hb; have HO1 := Aside0.mk (cmdsL_succ l0 k ▸ HX.out ▸ HE.out ▸ hN); have HB1 := Aside0.mk hb; clear hN hb HO HB))
          go_roundw
          case rel => exact ⟨k + 1, ⟨HK.out⟩, ⟨HL.out⟩, by rw [Int.natCast_succ], HO1, HB1⟩
          case measure => exact meas_of HK.out
        · have HE := Aside0.mk (cmd_plain (k := k) (x := x) (op := 112) (by unfold opOf; rw [h8]; rfl) (by decide) (by decide) (by decide)).symm
          go_wp2_with (first | ((with_reducible refine gate_dst (N := 17) rfl ?_); (refine lit_event ?hg (N := 17) ?hd (cs := vals8) (t := 5) (n := 8) ?hr ?_); (case hd => rfl); (case hg => rfl); (case hr => first | (go_simp; done) | (go_simp; rfl)); intro g1 hg1 w1 hb1 hB1; have q1 := lit_cell hb1 (j := 2) rfl; have HO1 := Aside0.mk (Kd.N_below HO.out hB1); have HB1 := Aside0.mk (HB.out.trans (hB1.mono HB.out.size)); clear HO HB hg1 hb1 hB1 q0; have HO := HO1; have HB := HB1; clear HO1 HB1; have q0 := cell_below5 HB.out HQ.out) | ((with_reducible refine gate_dst (N := 6) rfl ?_); (refine box_event ?hg (N := 6) ?hd (cs := zero32) (t := 32) ?hr ?_); (case hd => rfl); (case hg => rfl); (case hr => first | (go_simp; done) | (go_simp; rfl)); intro gc hgc w2 hbox hb2; have MB := Aside0.mk (Box.start (c := zero32.toList) HO.out HB.out hgc hb2 (by simpa using hbox)); clear hbox hb2 hgc HO HB) | ((with_reducible refine gate_store (t := 32) (p := 6) (v := .tmp 35) rfl ?_); (refine store_whole rfl rfl 32 (.tmp 6) (.tmp 35) rfl gc (cmdQ 112 ByteArray.empty (x / 100) (2 * (k : Int) + 1)) ?hx ?hy _ MB.out.box (size32 rfl) ?ho cmdQ_one ?_); (case hx => rfl); (case hy => first | rfl | (go_simp; done) | (go_simp; rfl)); (case ho => rfl); intro w3 hb3 hg3; have M1 := Aside0.mk (MB.out.put hb3 hg3); clear MB q0 hb3 hg3; have MB := M1; clear M1; have q0 := cell_below5 MB.out.b HQ.out) | ((with_reducible refine gate_dst (N := 78) rfl ?_); (refine load_whole rfl 32 _ rfl ⟨gc, 0, none⟩ ?hx Try.underlying32 (cmdQ 112 ByteArray.empty (x / 100) (2 * (k : Int) + 1)) (size32 rfl) (box_cells MB.out.box) ?_); (case hx => first | rfl | (simp [Act.eval]; done)); have HO := Aside0.mk (Kd.N_mono MB.out.n (fun _ _ => trivial)); have HB := Aside0.mk MB.out.b; clear MB) | ((with_reducible refine gate_builtin (b := .append) (xs := #[.tmp 77, .tmp 79]) rfl ?_); at_builtin; refine append_cmdS (w0 := w) w.heap.size rfl (.tmp 77) (.tmp 79) rfl _ (cmdsL l0 k) 112 ByteArray.empty (x / 100) (2 * (k : Int) + 1) ?aS ?aX HO.out HB.out HB.out.size (cmdsL_room HK.out) ?_; (case aS => first | rfl | (go_simp; done)); (case aX => first | rfl | (go_simp; done)); intro v1 w5 hN hb; have HO1 := Aside0.mk (cmdsL_succ l0 k ▸ HX.out ▸ HE.out ▸ hN); have HB1 := Aside0.mk hb; clear hN hb HO HB))
          go_roundw
          case rel => exact ⟨k + 1, ⟨HK.out⟩, ⟨HL.out⟩, by rw [Int.natCast_succ], HO1, HB1⟩
          case measure => exact meas_of HK.out
        · have HE := Aside0.mk (cmd_lab (k := k) (x := x) (op := 98) (by unfold opOf; rw [h8]; rfl) (by decide)).symm
          go_wp2_with (first | ((with_reducible refine gate_dst (N := 17) rfl ?_); (refine lit_event ?hg (N := 17) ?hd (cs := vals8) (t := 5) (n := 8) ?hr ?_); (case hd => rfl); (case hg => rfl); (case hr => first | (go_simp; done) | (go_simp; rfl)); intro g1 hg1 w1 hb1 hB1; have q1 := lit_cell hb1 (j := 3) rfl; have HO1 := Aside0.mk (Kd.N_below HO.out hB1); have HB1 := Aside0.mk (HB.out.trans (hB1.mono HB.out.size)); clear HO HB hg1 hb1 hB1 q0; have HO := HO1; have HB := HB1; clear HO1 HB1; have q0 := cell_below5 HB.out HQ.out) | ((with_reducible refine gate_dst (N := 6) rfl ?_); (refine box_event ?hg (N := 6) ?hd (cs := zero32) (t := 32) ?hr ?_); (case hd => rfl); (case hg => rfl); (case hr => first | (go_simp; done) | (go_simp; rfl)); intro gc hgc w2 hbox hb2; have MB := Aside0.mk (Box.start (c := zero32.toList) HO.out HB.out hgc hb2 (by simpa using hbox)); clear hbox hb2 hgc HO HB) | ((with_reducible refine gate_store (t := 32) (p := 6) (v := .tmp 35) rfl ?_); (refine store_whole rfl rfl 32 (.tmp 6) (.tmp 35) rfl gc (cmdQ 98 ByteArray.empty (x / 100) (2 * (k : Int) + 1)) ?hx ?hy _ MB.out.box (size32 rfl) ?ho cmdQ_one ?_); (case hx => rfl); (case hy => first | rfl | (go_simp; done) | (go_simp; rfl)); (case ho => rfl); intro w3 hb3 hg3; have M1 := Aside0.mk (MB.out.put hb3 hg3); clear MB q0 hb3 hg3; have MB := M1; clear M1; have q0 := cell_below5 MB.out.b HQ.out) | ((with_reducible refine gate_dst (N := 46) rfl ?_); (refine lit_event ?hg (N := 46) ?hd (cs := vals4) (t := 9) (n := 4) ?hr ?_); (case hd => rfl); (case hg => rfl); (case hr => first | (go_simp; done) | (go_simp; rfl)); intro g2 hg2 w4 hb4 hB4; have q2 := lit_cell hb4 H4.out; have M1 := Aside0.mk (MB.out.below hB4); clear MB q0 hg2 hb4 hB4; have MB := M1; clear M1; have q0 := cell_below5 MB.out.b HQ.out) | ((with_reducible refine gate_store (t := 9) (p := 55) (v := .tmp 54) rfl ?_); (refine store_one rfl rfl 9 (.tmp 55) (.tmp 54) rfl ⟨gc, 15, none⟩ (.string ((lab0 x))) ?hx ?hy rfl size9 ?hs (blk_frozen MB.out.box 15) ?_); (case hx => first | rfl | (simp [Act.eval]; done)); (case hy => first | rfl | (go_simp; done) | (go_simp; rfl)); (case hs => rw [blk_cell MB.out.box 15]; rfl); intro w6 e6; have M1 := Aside0.mk (show Box w gc _ (cmdsL l0 k) (cmdQ 98 ((lab0 x)) (x / 100) (2 * (k : Int) + 1)) w6 by rw [e6]; exact MB.out.set 15 _ rfl); clear MB e6 q0; have MB := M1; clear M1; have q0 := cell_below5 MB.out.b HQ.out; have q15 := lit_cell (j := 15) MB.out.box rfl) | ((with_reducible refine gate_dst (N := 78) rfl ?_); (refine load_whole rfl 32 _ rfl ⟨gc, 0, none⟩ ?hx Try.underlying32 (cmdQ 98 (lab0 x) (x / 100) (2 * (k : Int) + 1)) (size32 rfl) (box_cells MB.out.box) ?_); (case hx => first | rfl | (simp [Act.eval]; done)); have HO := Aside0.mk (Kd.N_mono MB.out.n (fun _ _ => trivial)); have HB := Aside0.mk MB.out.b; clear MB) | ((with_reducible refine gate_builtin (b := .append) (xs := #[.tmp 77, .tmp 79]) rfl ?_); at_builtin; refine append_cmdS (w0 := w) w.heap.size rfl (.tmp 77) (.tmp 79) rfl _ (cmdsL l0 k) 98 (lab0 x) (x / 100) (2 * (k : Int) + 1) ?aS ?aX HO.out HB.out HB.out.size (cmdsL_room HK.out) ?_; (case aS => first | rfl | (go_simp; done)); (case aX => first | rfl | (go_simp; done)); intro v1 w5 hN hb; have HO1 := Aside0.mk (cmdsL_succ l0 k ▸ HX.out ▸ HE.out ▸ hN); have HB1 := Aside0.mk hb; clear hN hb HO HB))
          go_roundw
          case rel => exact ⟨k + 1, ⟨HK.out⟩, ⟨HL.out⟩, by rw [Int.natCast_succ], HO1, HB1⟩
          case measure => exact meas_of HK.out
        · have HE := Aside0.mk (cmd_lab (k := k) (x := x) (op := 116) (by unfold opOf; rw [h8]; rfl) (by decide)).symm
          go_wp2_with (first | ((with_reducible refine gate_dst (N := 17) rfl ?_); (refine lit_event ?hg (N := 17) ?hd (cs := vals8) (t := 5) (n := 8) ?hr ?_); (case hd => rfl); (case hg => rfl); (case hr => first | (go_simp; done) | (go_simp; rfl)); intro g1 hg1 w1 hb1 hB1; have q1 := lit_cell hb1 (j := 4) rfl; have HO1 := Aside0.mk (Kd.N_below HO.out hB1); have HB1 := Aside0.mk (HB.out.trans (hB1.mono HB.out.size)); clear HO HB hg1 hb1 hB1 q0; have HO := HO1; have HB := HB1; clear HO1 HB1; have q0 := cell_below5 HB.out HQ.out) | ((with_reducible refine gate_dst (N := 6) rfl ?_); (refine box_event ?hg (N := 6) ?hd (cs := zero32) (t := 32) ?hr ?_); (case hd => rfl); (case hg => rfl); (case hr => first | (go_simp; done) | (go_simp; rfl)); intro gc hgc w2 hbox hb2; have MB := Aside0.mk (Box.start (c := zero32.toList) HO.out HB.out hgc hb2 (by simpa using hbox)); clear hbox hb2 hgc HO HB) | ((with_reducible refine gate_store (t := 32) (p := 6) (v := .tmp 35) rfl ?_); (refine store_whole rfl rfl 32 (.tmp 6) (.tmp 35) rfl gc (cmdQ 116 ByteArray.empty (x / 100) (2 * (k : Int) + 1)) ?hx ?hy _ MB.out.box (size32 rfl) ?ho cmdQ_one ?_); (case hx => rfl); (case hy => first | rfl | (go_simp; done) | (go_simp; rfl)); (case ho => rfl); intro w3 hb3 hg3; have M1 := Aside0.mk (MB.out.put hb3 hg3); clear MB q0 hb3 hg3; have MB := M1; clear M1; have q0 := cell_below5 MB.out.b HQ.out) | ((with_reducible refine gate_dst (N := 46) rfl ?_); (refine lit_event ?hg (N := 46) ?hd (cs := vals4) (t := 9) (n := 4) ?hr ?_); (case hd => rfl); (case hg => rfl); (case hr => first | (go_simp; done) | (go_simp; rfl)); intro g2 hg2 w4 hb4 hB4; have q2 := lit_cell hb4 H4.out; have M1 := Aside0.mk (MB.out.below hB4); clear MB q0 hg2 hb4 hB4; have MB := M1; clear M1; have q0 := cell_below5 MB.out.b HQ.out) | ((with_reducible refine gate_store (t := 9) (p := 55) (v := .tmp 54) rfl ?_); (refine store_one rfl rfl 9 (.tmp 55) (.tmp 54) rfl ⟨gc, 15, none⟩ (.string ((lab0 x))) ?hx ?hy rfl size9 ?hs (blk_frozen MB.out.box 15) ?_); (case hx => first | rfl | (simp [Act.eval]; done)); (case hy => first | rfl | (go_simp; done) | (go_simp; rfl)); (case hs => rw [blk_cell MB.out.box 15]; rfl); intro w6 e6; have M1 := Aside0.mk (show Box w gc _ (cmdsL l0 k) (cmdQ 116 ((lab0 x)) (x / 100) (2 * (k : Int) + 1)) w6 by rw [e6]; exact MB.out.set 15 _ rfl); clear MB e6 q0; have MB := M1; clear M1; have q0 := cell_below5 MB.out.b HQ.out; have q15 := lit_cell (j := 15) MB.out.box rfl) | ((with_reducible refine gate_dst (N := 78) rfl ?_); (refine load_whole rfl 32 _ rfl ⟨gc, 0, none⟩ ?hx Try.underlying32 (cmdQ 116 (lab0 x) (x / 100) (2 * (k : Int) + 1)) (size32 rfl) (box_cells MB.out.box) ?_); (case hx => first | rfl | (simp [Act.eval]; done)); have HO := Aside0.mk (Kd.N_mono MB.out.n (fun _ _ => trivial)); have HB := Aside0.mk MB.out.b; clear MB) | ((with_reducible refine gate_builtin (b := .append) (xs := #[.tmp 77, .tmp 79]) rfl ?_); at_builtin; refine append_cmdS (w0 := w) w.heap.size rfl (.tmp 77) (.tmp 79) rfl _ (cmdsL l0 k) 116 (lab0 x) (x / 100) (2 * (k : Int) + 1) ?aS ?aX HO.out HB.out HB.out.size (cmdsL_room HK.out) ?_; (case aS => first | rfl | (go_simp; done)); (case aX => first | rfl | (go_simp; done)); intro v1 w5 hN hb; have HO1 := Aside0.mk (cmdsL_succ l0 k ▸ HX.out ▸ HE.out ▸ hN); have HB1 := Aside0.mk hb; clear hN hb HO HB))
          go_roundw
          case rel => exact ⟨k + 1, ⟨HK.out⟩, ⟨HL.out⟩, by rw [Int.natCast_succ], HO1, HB1⟩
          case measure => exact meas_of HK.out
        · by_cases h127 : 127 < x
          · have HE := Aside0.mk (cmd_long (k := k) (x := x) (by unfold opOf; rw [h8]; rfl) h127).symm
            have hx5 : x / 32 < 8 := by omega
            have hx6 : 0 ≤ x / 32 := by omega
            have hsz : (9223372036854775807 < (lab0 x).size + (strOfNums [48 + x / 32]).size) = False := eq_false (Nat.not_lt.2 (long_size x))
            go_wp2_with (first | ((with_reducible refine gate_dst (N := 17) rfl ?_); (refine lit_event ?hg (N := 17) ?hd (cs := vals8) (t := 5) (n := 8) ?hr ?_); (case hd => rfl); (case hg => rfl); (case hr => first | (go_simp; done) | (go_simp; rfl)); intro g1 hg1 w1 hb1 hB1; have q1 := lit_cell hb1 (j := 5) rfl; have HO1 := Aside0.mk (Kd.N_below HO.out hB1); have HB1 := Aside0.mk (HB.out.trans (hB1.mono HB.out.size)); clear HO HB hg1 hb1 hB1 q0; have HO := HO1; have HB := HB1; clear HO1 HB1; have q0 := cell_below5 HB.out HQ.out) | ((with_reducible refine gate_dst (N := 6) rfl ?_); (refine box_event ?hg (N := 6) ?hd (cs := zero32) (t := 32) ?hr ?_); (case hd => rfl); (case hg => rfl); (case hr => first | (go_simp; done) | (go_simp; rfl)); intro gc hgc w2 hbox hb2; have MB := Aside0.mk (Box.start (c := zero32.toList) HO.out HB.out hgc hb2 (by simpa using hbox)); clear hbox hb2 hgc HO HB) | ((with_reducible refine gate_store (t := 32) (p := 6) (v := .tmp 35) rfl ?_); (refine store_whole rfl rfl 32 (.tmp 6) (.tmp 35) rfl gc (cmdQ 58 ByteArray.empty (x / 100) (2 * (k : Int) + 1)) ?hx ?hy _ MB.out.box (size32 rfl) ?ho cmdQ_one ?_); (case hx => rfl); (case hy => first | rfl | (go_simp; done) | (go_simp; rfl)); (case ho => rfl); intro w3 hb3 hg3; have M1 := Aside0.mk (MB.out.put hb3 hg3); clear MB q0 hb3 hg3; have MB := M1; clear M1; have q0 := cell_below5 MB.out.b HQ.out) | ((with_reducible refine gate_dst (N := 46) rfl ?_); (refine lit_event ?hg (N := 46) ?hd (cs := vals4) (t := 9) (n := 4) ?hr ?_); (case hd => rfl); (case hg => rfl); (case hr => first | (go_simp; done) | (go_simp; rfl)); intro g2 hg2 w4 hb4 hB4; have q2 := lit_cell hb4 H4.out; have M1 := Aside0.mk (MB.out.below hB4); clear MB q0 hg2 hb4 hB4; have MB := M1; clear M1; have q0 := cell_below5 MB.out.b HQ.out) | ((with_reducible refine gate_store (t := 9) (p := 55) (v := .tmp 54) rfl ?_); (refine store_one rfl rfl 9 (.tmp 55) (.tmp 54) rfl ⟨gc, 15, none⟩ (.string ((lab0 x))) ?hx ?hy rfl size9 ?hs (blk_frozen MB.out.box 15) ?_); (case hx => first | rfl | (simp [Act.eval]; done)); (case hy => first | rfl | (go_simp; done) | (go_simp; rfl)); (case hs => rw [blk_cell MB.out.box 15]; rfl); intro w6 e6; have M1 := Aside0.mk (show Box w gc _ (cmdsL l0 k) (cmdQ 58 ((lab0 x)) (x / 100) (2 * (k : Int) + 1)) w6 by rw [e6]; exact MB.out.set 15 _ rfl); clear MB e6 q0; have MB := M1; clear M1; have q0 := cell_below5 MB.out.b HQ.out; have q15 := lit_cell (j := 15) MB.out.box rfl))
            refine start_ (n := 13) (S := fun w' => w'.cell? ⟨gc, 15, none⟩ = some (.string (lab0 x)) ∧ w'.cell? (ad.add k) = some (.int .u8 x)) (ds := [12]) #[false, false, false, false, false, false, false, false, false, false, false, false, false] (by kernel_rfl) rfl rfl ⟨q15, q0⟩ (fun hHeld => ?_)
            refine with_tabW cmds_tab10 cmds_bits10 (fun HT_ HW_ => ?_)
            have M1 := Aside0.mk (MB.out.below (below_drew (Below.refl _ _)))
            clear MB q0 q15
            have MB := M1
            clear M1
            generalize w6.drew = w7 at MB hHeld ⊢
            refine pure_ (i := 0) (N := some 65) (v := ?_) (a' := ?_) #[true, false, false, false, false, false, false, false, false, false, false, false, false] rfl rfl (any_of HT_.out (by kernel_rfl)) (fun _ _ _ h => h) (Or.inl ⟨by rfl, ?_⟩) ?_ ?_
            rotate_left
            · intro w'
              go_simp
              with_reducible rfl
            rotate_left
            · simp only [Act.put, List.setIfInBounds_toArray, List.set_cons_zero, List.set_cons_succ, i64_w, i32_w]
              rfl
            refine pure_ (i := 2) (N := some 67) (v := ?_) (a' := ?_) #[true, false, true, false, false, false, false, false, false, false, false, false, false] rfl rfl (any_of HT_.out (by kernel_rfl)) (fun _ _ _ h => h) (Or.inl ⟨by rfl, ?_⟩) ?_ ?_
            rotate_left
            · intro w'
              go_simp
              with_reducible rfl
            rotate_left
            · simp only [Act.put, List.setIfInBounds_toArray, List.set_cons_zero, List.set_cons_succ, i64_w, i32_w]
              rfl
            refine pure_ (i := 3) (N := some 68) (v := ?_) (a' := ?_) #[true, false, true, true, false, false, false, false, false, false, false, false, false] rfl rfl (any_of HT_.out (by kernel_rfl)) (fun _ _ _ h => h) (Or.inl ⟨by rfl, ?_⟩) ?_ ?_
            rotate_left
            · intro w'
              go_simp
              with_reducible rfl
            rotate_left
            · simp only [Act.put, List.setIfInBounds_toArray, List.set_cons_zero, List.set_cons_succ, i64_w, i32_w]
              rfl
            refine pure_ (i := 4) (N := some 69) (v := ?_) (a' := ?_) #[true, false, true, true, true, false, false, false, false, false, false, false, false] rfl rfl (any_of HT_.out (by kernel_rfl)) (fun _ _ _ h => h) (Or.inl ⟨by rfl, ?_⟩) ?_ ?_
            rotate_left
            · intro w'
              go_simp
              with_reducible rfl
            rotate_left
            · simp only [Act.put, List.setIfInBounds_toArray, List.set_cons_zero, List.set_cons_succ, i64_w, i32_w]
              rfl
            refine take_ (i := 1) (N := some 66) (v := ?_) (a' := ?_) #[true, true, true, true, true, false, false, false, false, false, false, false, false] rfl rfl (take_ofW HT_.out HW_.out (by kernel_rfl)) (fun _ _ _ h => h) (Or.inl ⟨by rfl, ?_⟩) hHeld ?_ ?_
            rotate_left
            · rintro w' ⟨s0, s1⟩
              go_simp
              with_reducible rfl
            rotate_left
            · simp only [Act.put, List.setIfInBounds_toArray, List.set_cons_zero, List.set_cons_succ, i64_w, i32_w]
              rfl
            refine take_ (i := 5) (N := some 70) (v := ?_) (a' := ?_) #[true, true, true, true, true, true, false, false, false, false, false, false, false] rfl rfl (take_ofW HT_.out HW_.out (by kernel_rfl)) (fun _ _ _ h => h) (Or.inl ⟨by rfl, ?_⟩) hHeld ?_ ?_
            rotate_left
            · rintro w' ⟨s0, s1⟩
              go_simp
              with_reducible rfl
            rotate_left
            · simp only [Act.put, List.setIfInBounds_toArray, List.set_cons_zero, List.set_cons_succ, i64_w, i32_w]
              rfl
            refine pure_ (i := 6) (N := some 71) (v := ?_) (a' := ?_) #[true, true, true, true, true, true, true, false, false, false, false, false, false] rfl rfl (any_of HT_.out (by kernel_rfl)) (fun _ _ _ h => h) (Or.inl ⟨by rfl, ?_⟩) ?_ ?_
            rotate_left
            · intro w'
              go_simp
              with_reducible rfl
            rotate_left
            · simp only [Act.put, List.setIfInBounds_toArray, List.set_cons_zero, List.set_cons_succ, i64_w, i32_w]
              rfl
            refine pure_ (i := 7) (N := some 72) (v := ?_) (a' := ?_) #[true, true, true, true, true, true, true, true, false, false, false, false, false] rfl rfl (any_of HT_.out (by kernel_rfl)) (fun _ _ _ h => h) (Or.inl ⟨by rfl, ?_⟩) ?_ ?_
            rotate_left
            · intro w'
              go_simp
              with_reducible rfl
            rotate_left
            · simp only [Act.put, List.setIfInBounds_toArray, List.set_cons_zero, List.set_cons_succ, i64_w, i32_w]
              rfl
            refine one_ (i := 8) (N := some 73) #[true, true, true, true, true, true, true, true, true, false, false, false, false] rfl rfl (one_of HT_.out (by kernel_rfl)) (by decide) (fun K hK => ?_)
            refine Kd.R_lit_step (Kd.int .u8) _ 5 ?hg (N := 73) ?hd (xs := ([48 + x / 32] : List Int)) (inner := [.int .u8 (48 + x / 32)]) (ok := fun _ => True) (okp := fun _ => True) ?hr ?hp (fun _ hk => hk) trivial (Below.refl _ _) (Nat.le_refl _) (by simp) ?_
            case hd => rfl
            case hg => rfl
            case hr => first | (go_simp; done) | (go_simp; rfl) | (go_simp; rw [wrap_byte hx0 hx1])
            case hp => exact (Reps.one (show Kd.M (Kd.int .u8) _ _ _ (48 + x / 32) [.int .u8 (48 + x / 32)] from rfl) (Reps.none _ _))
            intro v172 w8 ho35 hb hg_ hnew_
            clear hg_ hnew_
            have M1 := Aside0.mk (MB.out.below hb)
            have HO3 := Aside0.mk ho35
            clear MB hb ho35
            have MB := M1
            clear M1
            refine hK.out _ _ ⟨lit_cell (j := 15) MB.out.box rfl, cell_below5 MB.out.b HQ.out⟩ (fun hHeld => ?_)
            clear hK K
            refine norm_ (a' := ?_) ?_ ?_
            rotate_left
            · show Act.put _ (some 73) _ = _
              simp only [Act.put, List.setIfInBounds_toArray, List.set_cons_zero, List.set_cons_succ, i64_w, i32_w]
              rfl
            refine one_ (i := 9) (N := some 74) #[true, true, true, true, true, true, true, true, true, true, false, false, false] rfl rfl (one_of HT_.out (by kernel_rfl)) (by decide) (fun K hK => ?_)
            have hcv36 := own_string (P := Try.prog) Try.underlying39 Try.underlying5 Try.underlying9 (Kd.own_of_R HO3.out)
            refine value_ (w1 := ?_) (v := ?_) (by rfl) rfl ?_ ?_
            rotate_left 2
            · go_simp
              constructor
              · rfl
              · rfl
            clear hcv36
            refine hK.out _ _ ⟨lit_cell (j := 15) MB.out.box rfl, cell_below5 MB.out.b HQ.out⟩ (fun hHeld => ?_)
            clear hK K
            refine norm_ (a' := ?_) ?_ ?_
            rotate_left
            · show Act.put _ (some 74) _ = _
              simp only [Act.put, List.setIfInBounds_toArray, List.set_cons_zero, List.set_cons_succ, i64_w, i32_w]
              rfl
            refine pure_ (i := 10) (N := some 75) (v := ?_) (a' := ?_) #[true, true, true, true, true, true, true, true, true, true, true, false, false] rfl rfl (any_of HT_.out (by kernel_rfl)) (fun _ _ _ h => h) (Or.inl ⟨by rfl, ?_⟩) ?_ ?_
            rotate_left
            · intro w'
              go_simp
              with_reducible rfl
            rotate_left
            · simp only [Act.put, List.setIfInBounds_toArray, List.set_cons_zero, List.set_cons_succ, i64_w, i32_w]
              rfl
            refine pure_ (i := 11) (N := some 76) (v := ?_) (a' := ?_) #[true, true, true, true, true, true, true, true, true, true, true, true, false] rfl rfl (any_of HT_.out (by kernel_rfl)) (fun _ _ _ h => h) (Or.inl ⟨by rfl, ?_⟩) ?_ ?_
            rotate_left
            · intro w'
              go_simp
              with_reducible rfl
            rotate_left
            · simp only [Act.put, List.setIfInBounds_toArray, List.set_cons_zero, List.set_cons_succ, i64_w, i32_w]
              rfl
            refine last_ (i := 12) (N := none) #[true, true, true, true, true, true, true, true, true, true, true, true, true] rfl rfl (one_of HT_.out (by kernel_rfl)) (by decide) (fun K hK => ?_)
            have hs37 : w8.cell? ⟨gc, 15, none⟩ = some (.string (lab0 x)) := lit_cell (j := 15) MB.out.box rfl
            have hfs37 := blk_frozen MB.out.box 15
            refine skip_ (w1 := ?_) (by rfl) rfl ?_ ?_
            rotate_left
            · go_simp
              rfl
            refine hK.out _ _ ?_
            clear hK K
            refine done_ (done_of HT_.out (by kernel_rfl)) ?_
            have M1 := Aside0.mk (show Box w gc _ (cmdsL l0 k) (cmdQ 58 (lab0 x ++ strOfNums [48 + x / 32]) (x / 100) (2 * (k : Int) + 1)) (w8.setCell ⟨gc, 15, none⟩ (.string (lab0 x ++ strOfNums [48 + x / 32]))) from MB.out.set 15 _ rfl)
            clear MB hs37 hfs37 hHeld
            have MB := M1
            clear M1
            generalize w8.setCell ⟨gc, 15, none⟩ (.string (lab0 x ++ strOfNums [48 + x / 32])) = w9 at MB ⊢
            go_wp2_with (first | ((with_reducible refine gate_dst (N := 78) rfl ?_); (refine load_whole rfl 32 _ rfl ⟨gc, 0, none⟩ ?hx Try.underlying32 (cmdQ 58 (lab0 x ++ strOfNums [48 + x / 32]) (x / 100) (2 * (k : Int) + 1)) (size32 rfl) (box_cells MB.out.box) ?_); (case hx => first | rfl | (simp [Act.eval]; done)); have HO := Aside0.mk (Kd.N_mono MB.out.n (fun _ _ => trivial)); have HB := Aside0.mk MB.out.b; clear MB) | ((with_reducible refine gate_builtin (b := .append) (xs := #[.tmp 77, .tmp 79]) rfl ?_); at_builtin; refine append_cmdS (w0 := w) w.heap.size rfl (.tmp 77) (.tmp 79) rfl _ (cmdsL l0 k) 58 (lab0 x ++ strOfNums [48 + x / 32]) (x / 100) (2 * (k : Int) + 1) ?aS ?aX HO.out HB.out HB.out.size (cmdsL_room HK.out) ?_; (case aS => first | rfl | (go_simp; done)); (case aX => first | rfl | (go_simp; done)); intro v1 w5 hN hb; have HO1 := Aside0.mk (cmdsL_succ l0 k ▸ HX.out ▸ HE.out ▸ hN); have HB1 := Aside0.mk hb; clear hN hb HO HB))
            go_roundw
            case rel => exact ⟨k + 1, ⟨HK.out⟩, ⟨HL.out⟩, by rw [Int.natCast_succ], HO1, HB1⟩
            case measure => exact meas_of HK.out
          · have HE := Aside0.mk (cmd_short (k := k) (x := x) (by unfold opOf; rw [h8]; rfl) h127).symm
            have h128 : x ≤ 127 := by omega
            go_wp2_with (first | ((with_reducible refine gate_dst (N := 17) rfl ?_); (refine lit_event ?hg (N := 17) ?hd (cs := vals8) (t := 5) (n := 8) ?hr ?_); (case hd => rfl); (case hg => rfl); (case hr => first | (go_simp; done) | (go_simp; rfl)); intro g1 hg1 w1 hb1 hB1; have q1 := lit_cell hb1 (j := 5) rfl; have HO1 := Aside0.mk (Kd.N_below HO.out hB1); have HB1 := Aside0.mk (HB.out.trans (hB1.mono HB.out.size)); clear HO HB hg1 hb1 hB1 q0; have HO := HO1; have HB := HB1; clear HO1 HB1; have q0 := cell_below5 HB.out HQ.out) | ((with_reducible refine gate_dst (N := 6) rfl ?_); (refine box_event ?hg (N := 6) ?hd (cs := zero32) (t := 32) ?hr ?_); (case hd => rfl); (case hg => rfl); (case hr => first | (go_simp; done) | (go_simp; rfl)); intro gc hgc w2 hbox hb2; have MB := Aside0.mk (Box.start (c := zero32.toList) HO.out HB.out hgc hb2 (by simpa using hbox)); clear hbox hb2 hgc HO HB) | ((with_reducible refine gate_store (t := 32) (p := 6) (v := .tmp 35) rfl ?_); (refine store_whole rfl rfl 32 (.tmp 6) (.tmp 35) rfl gc (cmdQ 58 ByteArray.empty (x / 100) (2 * (k : Int) + 1)) ?hx ?hy _ MB.out.box (size32 rfl) ?ho cmdQ_one ?_); (case hx => rfl); (case hy => first | rfl | (go_simp; done) | (go_simp; rfl)); (case ho => rfl); intro w3 hb3 hg3; have M1 := Aside0.mk (MB.out.put hb3 hg3); clear MB q0 hb3 hg3; have MB := M1; clear M1; have q0 := cell_below5 MB.out.b HQ.out) | ((with_reducible refine gate_dst (N := 46) rfl ?_); (refine lit_event ?hg (N := 46) ?hd (cs := vals4) (t := 9) (n := 4) ?hr ?_); (case hd => rfl); (case hg => rfl); (case hr => first | (go_simp; done) | (go_simp; rfl)); intro g2 hg2 w4 hb4 hB4; have q2 := lit_cell hb4 H4.out; have M1 := Aside0.mk (MB.out.below hB4); clear MB q0 hg2 hb4 hB4; have MB := M1; clear M1; have q0 := cell_below5 MB.out.b HQ.out) | ((with_reducible refine gate_store (t := 9) (p := 55) (v := .tmp 54) rfl ?_); (refine store_one rfl rfl 9 (.tmp 55) (.tmp 54) rfl ⟨gc, 15, none⟩ (.string ((lab0 x))) ?hx ?hy rfl size9 ?hs (blk_frozen MB.out.box 15) ?_); (case hx => first | rfl | (simp [Act.eval]; done)); (case hy => first | rfl | (go_simp; done) | (go_simp; rfl)); (case hs => rw [blk_cell MB.out.box 15]; rfl); intro w6 e6; have M1 := Aside0.mk (show Box w gc _ (cmdsL l0 k) (cmdQ 58 ((lab0 x)) (x / 100) (2 * (k : Int) + 1)) w6 by rw [e6]; exact MB.out.set 15 _ rfl); clear MB e6 q0; have MB := M1; clear M1; have q0 := cell_below5 MB.out.b HQ.out; have q15 := lit_cell (j := 15) MB.out.box rfl) | ((with_reducible refine gate_dst (N := 78) rfl ?_); (refine load_whole rfl 32 _ rfl ⟨gc, 0, none⟩ ?hx Try.underlying32 (cmdQ 58 (lab0 x) (x / 100) (2 * (k : Int) + 1)) (size32 rfl) (box_cells MB.out.box) ?_); (case hx => first | rfl | (simp [Act.eval]; done)); have HO := Aside0.mk (Kd.N_mono MB.out.n (fun _ _ => trivial)); have HB := Aside0.mk MB.out.b; clear MB) | ((with_reducible refine gate_builtin (b := .append) (xs := #[.tmp 77, .tmp 79]) rfl ?_); at_builtin; refine append_cmdS (w0 := w) w.heap.size rfl (.tmp 77) (.tmp 79) rfl _ (cmdsL l0 k) 58 (lab0 x) (x / 100) (2 * (k : Int) + 1) ?aS ?aX HO.out HB.out HB.out.size (cmdsL_room HK.out) ?_; (case aS => first | rfl | (go_simp; done)); (case aX => first | rfl | (go_simp; done)); intro v1 w5 hN hb; have HO1 := Aside0.mk (cmdsL_succ l0 k ▸ HX.out ▸ HE.out ▸ hN); have HB1 := Aside0.mk hb; clear hN hb HO HB))
            go_roundw
            case rel => exact ⟨k + 1, ⟨HK.out⟩, ⟨HL.out⟩, by rw [Int.natCast_succ], HO1, HB1⟩
            case measure => exact meas_of HK.out
        · have HE := Aside0.mk (cmd_plain (k := k) (x := x) (op := 123) (by unfold opOf; rw [h8]; rfl) (by decide) (by decide) (by decide)).symm
          go_wp2_with (first | ((with_reducible refine gate_dst (N := 17) rfl ?_); (refine lit_event ?hg (N := 17) ?hd (cs := vals8) (t := 5) (n := 8) ?hr ?_); (case hd => rfl); (case hg => rfl); (case hr => first | (go_simp; done) | (go_simp; rfl)); intro g1 hg1 w1 hb1 hB1; have q1 := lit_cell hb1 (j := 6) rfl; have HO1 := Aside0.mk (Kd.N_below HO.out hB1); have HB1 := Aside0.mk (HB.out.trans (hB1.mono HB.out.size)); clear HO HB hg1 hb1 hB1 q0; have HO := HO1; have HB := HB1; clear HO1 HB1; have q0 := cell_below5 HB.out HQ.out) | ((with_reducible refine gate_dst (N := 6) rfl ?_); (refine box_event ?hg (N := 6) ?hd (cs := zero32) (t := 32) ?hr ?_); (case hd => rfl); (case hg => rfl); (case hr => first | (go_simp; done) | (go_simp; rfl)); intro gc hgc w2 hbox hb2; have MB := Aside0.mk (Box.start (c := zero32.toList) HO.out HB.out hgc hb2 (by simpa using hbox)); clear hbox hb2 hgc HO HB) | ((with_reducible refine gate_store (t := 32) (p := 6) (v := .tmp 35) rfl ?_); (refine store_whole rfl rfl 32 (.tmp 6) (.tmp 35) rfl gc (cmdQ 123 ByteArray.empty (x / 100) (2 * (k : Int) + 1)) ?hx ?hy _ MB.out.box (size32 rfl) ?ho cmdQ_one ?_); (case hx => rfl); (case hy => first | rfl | (go_simp; done) | (go_simp; rfl)); (case ho => rfl); intro w3 hb3 hg3; have M1 := Aside0.mk (MB.out.put hb3 hg3); clear MB q0 hb3 hg3; have MB := M1; clear M1; have q0 := cell_below5 MB.out.b HQ.out) | ((with_reducible refine gate_dst (N := 78) rfl ?_); (refine load_whole rfl 32 _ rfl ⟨gc, 0, none⟩ ?hx Try.underlying32 (cmdQ 123 ByteArray.empty (x / 100) (2 * (k : Int) + 1)) (size32 rfl) (box_cells MB.out.box) ?_); (case hx => first | rfl | (simp [Act.eval]; done)); have HO := Aside0.mk (Kd.N_mono MB.out.n (fun _ _ => trivial)); have HB := Aside0.mk MB.out.b; clear MB) | ((with_reducible refine gate_builtin (b := .append) (xs := #[.tmp 77, .tmp 79]) rfl ?_); at_builtin; refine append_cmdS (w0 := w) w.heap.size rfl (.tmp 77) (.tmp 79) rfl _ (cmdsL l0 k) 123 ByteArray.empty (x / 100) (2 * (k : Int) + 1) ?aS ?aX HO.out HB.out HB.out.size (cmdsL_room HK.out) ?_; (case aS => first | rfl | (go_simp; done)); (case aX => first | rfl | (go_simp; done)); intro v1 w5 hN hb; have HO1 := Aside0.mk (cmdsL_succ l0 k ▸ HX.out ▸ HE.out ▸ hN); have HB1 := Aside0.mk hb; clear hN hb HO HB))
          go_roundw
          case rel => exact ⟨k + 1, ⟨HK.out⟩, ⟨HL.out⟩, by rw [Int.natCast_succ], HO1, HB1⟩
          case measure => exact meas_of HK.out
        · have HE := Aside0.mk (cmd_plain (k := k) (x := x) (op := 125) (by unfold opOf; rw [h8]; rfl) (by decide) (by decide) (by decide)).symm
          go_wp2_with (first | ((with_reducible refine gate_dst (N := 17) rfl ?_); (refine lit_event ?hg (N := 17) ?hd (cs := vals8) (t := 5) (n := 8) ?hr ?_); (case hd => rfl); (case hg => rfl); (case hr => first | (go_simp; done) | (go_simp; rfl)); intro g1 hg1 w1 hb1 hB1; have q1 := lit_cell hb1 (j := 7) rfl; have HO1 := Aside0.mk (Kd.N_below HO.out hB1); have HB1 := Aside0.mk (HB.out.trans (hB1.mono HB.out.size)); clear HO HB hg1 hb1 hB1 q0; have HO := HO1; have HB := HB1; clear HO1 HB1; have q0 := cell_below5 HB.out HQ.out) | ((with_reducible refine gate_dst (N := 6) rfl ?_); (refine box_event ?hg (N := 6) ?hd (cs := zero32) (t := 32) ?hr ?_); (case hd => rfl); (case hg => rfl); (case hr => first | (go_simp; done) | (go_simp; rfl)); intro gc hgc w2 hbox hb2; have MB := Aside0.mk (Box.start (c := zero32.toList) HO.out HB.out hgc hb2 (by simpa using hbox)); clear hbox hb2 hgc HO HB) | ((with_reducible refine gate_store (t := 32) (p := 6) (v := .tmp 35) rfl ?_); (refine store_whole rfl rfl 32 (.tmp 6) (.tmp 35) rfl gc (cmdQ 125 ByteArray.empty (x / 100) (2 * (k : Int) + 1)) ?hx ?hy _ MB.out.box (size32 rfl) ?ho cmdQ_one ?_); (case hx => rfl); (case hy => first | rfl | (go_simp; done) | (go_simp; rfl)); (case ho => rfl); intro w3 hb3 hg3; have M1 := Aside0.mk (MB.out.put hb3 hg3); clear MB q0 hb3 hg3; have MB := M1; clear M1; have q0 := cell_below5 MB.out.b HQ.out) | ((with_reducible refine gate_dst (N := 78) rfl ?_); (refine load_whole rfl 32 _ rfl ⟨gc, 0, none⟩ ?hx Try.underlying32 (cmdQ 125 ByteArray.empty (x / 100) (2 * (k : Int) + 1)) (size32 rfl) (box_cells MB.out.box) ?_); (case hx => first | rfl | (simp [Act.eval]; done)); have HO := Aside0.mk (Kd.N_mono MB.out.n (fun _ _ => trivial)); have HB := Aside0.mk MB.out.b; clear MB) | ((with_reducible refine gate_builtin (b := .append) (xs := #[.tmp 77, .tmp 79]) rfl ?_); at_builtin; refine append_cmdS (w0 := w) w.heap.size rfl (.tmp 77) (.tmp 79) rfl _ (cmdsL l0 k) 125 ByteArray.empty (x / 100) (2 * (k : Int) + 1) ?aS ?aX HO.out HB.out HB.out.size (cmdsL_room HK.out) ?_; (case aS => first | rfl | (go_simp; done)); (case aX => first | rfl | (go_simp; done)); intro v1 w5 hN hb; have HO1 := Aside0.mk (cmdsL_succ l0 k ▸ HX.out ▸ HE.out ▸ hN); have HB1 := Aside0.mk hb; clear hN hb HO HB))
          go_roundw
          case rel => exact ⟨k + 1, ⟨HK.out⟩, ⟨HL.out⟩, by rw [Int.natCast_succ], HO1, HB1⟩
          case measure => exact meas_of HK.out
      · have hkn : k = 30 := by have := hk.out; omega
        have b1 : ¬ (k : Int) < 30 := by omega
        go_wp2
        go_ret
        exact ⟨_, rfl, by rw [show min l0.length 30 = k by omega]; exact HO.out, HB.out⟩
    · have hkn : k = l0.length := by have := hkl.out; omega
      have b0 : ¬ (k : Int) < l0.length := by omega
      have HM := Aside0.mk (show min l0.length 30 = k by have := hk.out; omega)
      go_wp2
      go_ret
      exact ⟨_, rfl, by rw [HM.out]; exact HO.out, HB.out⟩
end Go.Proofs.Ytgennlcbmepchaa.PAll
