/- What note does to the resolver's memory, branch by branch. (Written by wip/flat/gen_note.py.) -/
import Derived.Test.YtgennlcbmepchaaExtMem
namespace Go.Proofs.Ytgennlcbmepchaa.PAll
open Go.RowKit Go.Maps Go.WideMaps Go.Proofs.YtgennlcbmepchaaW.PrintWords Go.Proofs.YtgennlcbmepchaaW.PrintLast Go.Proofs.YtgennlcbmepchaaW.PrintMore

def zero32 : Array Value := #[.int .u8 0, .int .i64 0, .slice none 0 0, .int .i64 0, .bool false, .bool false, .int .u8 0, .int .i64 0, .slice none 0 0, .int .i64 0, .bool false, .bool false, .bool false, .int .u8 0, .slice none 0 0, .string (⟨#[]⟩ : ByteArray), .string (⟨#[]⟩ : ByteArray), .slice none 0 0, .int .i64 0, .bool false, .bool false, .slice none 0 0, .int .i64 0, .bool false, .bool false, .slice none 0 0, .int .i64 0, .int .i64 0]

theorem size32 {c : List Value} (h : c.length = 28) : (Try.prog.info? 32).map (·.size) = some c.length := by
  have := info32
  rw [h]
  cases hq : Try.prog.info? 32 with
  | none => simp [hq] at this
  | some i => simp [hq] at this ⊢; exact this.2.1
theorem info3 : (Try.prog.info? 3).map (fun i => (i.zero, i.size, i.bytes)) = some (some (.int .i64 0), 1, 8) := by kernel_rfl
theorem size3 : (Try.prog.info? 3).map (·.size) = some 1 := by kernel_rfl
theorem size47 : (Try.prog.info? 47).map (·.size) = some 1 := by kernel_rfl
theorem law9 : Keyed Try.prog 9 := string_keyed Try.underlying9
theorem zero3 (w : World) : (zeroValue 3).run Try.prog w = .ok (.int .i64 0) w := by kernel_rfl

/-- Behind the copy of a command: what the resolver's memory was it is still; the copy's cells. -/
theorem boxed {w0 w1 w w2 w3 : World} {gb g bm n cap nd gc : Nat} {rows : List (List Value)} {op : List Int} {D : DataW Unit} (h : Mem w0 w1 gb g bm n cap rows op nd D w) {c : List Value} (hgc : gc = w.heap.size) (hb2 : Below w.heap.size w w2) (hb3 : w3.heap[gc]? = some (.cells c.toArray 32 (0, 0))) (hg3 : w2.grownBy w3 (some gc)) {v v' : Value} (h13 : c[13]? = some v) (h15 : c[15]? = some v') :
    Aside0 (Mem w0 w1 gb g bm n cap rows op nd D w3) ∧ w3.cell? ⟨gc, 13, none⟩ = some v ∧ w3.cell? ⟨gc, 15, none⟩ = some v' ∧ Aside0 (Below w.heap.size w w3) :=
  have hb := hb2.grown hg3 hb2.size (fun k hk => by cases hk; omega)
  ⟨⟨h.step hb⟩, by simp [World.cell?, hb3, h13], by simp [World.cell?, hb3, h15], ⟨hb⟩⟩
theorem Mem.cell26 {w0 w1 w : World} {gb g bm n cap nd : Nat} {rows : List (List Value)} {op : List Int} {D : DataW Unit} (h : Mem w0 w1 gb g bm n cap rows op nd D w) {j : Nat} {c : List Value} (hc : rows[j]? = some c) : (w.cell? ⟨gb, j * 28 + 26, none⟩).isSome = true := by
  obtain ⟨c', hc', hl, _, hcc⟩ := h.elem (j := j) (by have := h.len; have := (List.getElem?_eq_some_iff.1 hc).1; omega)
  rw [hcc 26 c'[26] (List.getElem?_eq_getElem (by omega))]
  rfl
theorem Mem.after {w0 w1 w w2 : World} {gb g bm n cap nd : Nat} {rows : List (List Value)} {op : List Int} {D : DataW Unit} (h : Mem w0 w1 gb g bm n cap rows op nd D w) {vo : Value} (hR0 : (Kd.int .i64).R 3 w w1.heap.size (fun _ => True) vo op) (hg : w.grownBy w2 vo.ownBlock) : (w2.cell? ⟨g, 1, none⟩).isSome = true ∧ w2.frozen? ⟨g, 1, none⟩ = false := by
  obtain ⟨vo', hv, _⟩ := h.st
  have x2 : some g ≠ vo.ownBlock := fun e => by obtain ⟨_, _, cells, hx⟩ := Mem.vo_lt hR0 g e.symm; rw [hv] at hx; simp at hx
  have hgg := (hg.block g h.lt_g x2).trans hv
  exact ⟨by simp [World.cell?, hgg], by simp [World.frozen?, hgg]⟩

set_option maxRecDepth 100000 in
theorem note_other {w0 w1 w : World} {gb g bm n cap nd : Nat} {rows : List (List Value)} {op : List Int} {D : DataW Unit} (h : Mem w0 w1 gb g bm n cap rows op nd D w) {j : Nat} (hj : j < n) {c : List Value} (hc : rows[j]? = some c) {s : Value} {o : Int} (h13 : c[13]? = some (.int .u8 o)) (h15 : c[15]? = some s) (h123 : (o == 123) = false) (h125 : (o == 125) = false) (h58 : (o == 58) = false) :
    Calls Try.prog 12 #[.pointer (some ⟨g, 0, none⟩), .int .i64 j] w fun e w' => e = .returned (.int .u16 0) ∧ Mem w0 w1 gb g bm n cap rows op nd D w' := by
  have HM := Aside0.mk h
  obtain ⟨c', hc', hcl, hco, hcc⟩ := h.elem hj
  obtain rfl : c = c' := by rw [hc] at hc'; exact Option.some.inj hc'
  have k0 := h.c0
  have b0 : (0 : Int) ≤ j := by omega
  have b1 : (j : Int) < n := by omega
  have HC := Aside0.mk hcc
  have HL := Aside0.mk hcl
  have HO := Aside0.mk hco
  have H13 := Aside0.mk h13
  have H15 := Aside0.mk h15
  have HR := Aside0.mk hc
  clear hc hc' hcl hco hcc h h13 h15 hj
  go_enter Try.func12, Try.ntmps12
  go_wp2_with (first | ((with_reducible refine gate_dst (N := 15) rfl ?_); (refine load_whole rfl 32 _ rfl ⟨gb, j * 28, none⟩ ?hx Try.underlying32 c (size32 HL.out) ?hc ?_); (case hx => first | rfl | (simp [Act.eval, add_at]; done) | (simp [Act.eval]; done)); (case hc => intro i_ u_ hu_; rw [add_at]; exact HC.out i_ u_ hu_)) | ((with_reducible refine gate_dst (N := 5) rfl ?_); (refine box_event ?hg (N := 5) ?hd (cs := zero32) (t := 32) ?hr ?_); (case hd => rfl); (case hg => rfl); (case hr => first | (go_simp; done) | (go_simp; rfl)); intro gc hgc w2 hbox hb2; have BX := Aside0.mk hbox; have B2 := Aside0.mk hb2; have GC := Aside0.mk hgc; clear hbox hb2 hgc) | ((with_reducible refine gate_store (t := 32) (p := 5) (v := .tmp 15) rfl ?_); (refine store_whole rfl rfl 32 (.tmp 5) (.tmp 15) rfl gc c ?hx ?hy zero32 BX.out (size32 HL.out) ?ho HO.out ?_); (case hx => rfl); (case hy => rfl); (case ho => rw [HL.out]; rfl); intro w3 hb3 hg3; obtain ⟨H3, q13, q15, HB3⟩ := boxed HM.out GC.out B2.out hb3 hg3 H13.out H15.out; clear hb3 hg3))
  go_ret
  exact ⟨rfl, H3.out⟩

set_option maxRecDepth 100000 in
theorem note_open {w0 w1 w : World} {gb g bm n cap nd : Nat} {rows : List (List Value)} {op : List Int} {D : DataW Unit} (h : Mem w0 w1 gb g bm n cap rows op nd D w) {j : Nat} (hj : j < n) {c : List Value} (hc : rows[j]? = some c) {s : Value} (h13 : c[13]? = some (.int .u8 123)) (h15 : c[15]? = some s) (hb8 : (op.length + 1) * 8 ≤ 140737488355328) :
    Calls Try.prog 12 #[.pointer (some ⟨g, 0, none⟩), .int .i64 j] w fun e w' => e = .returned (.int .u16 0) ∧ Mem w0 w1 gb g bm n cap (rows.set j (c.set 26 (.int .i64 (-1)))) (op ++ [(j : Int)]) nd D w' := by
  have HM := Aside0.mk h
  obtain ⟨c', hc', hcl, hco, hcc⟩ := h.elem hj
  obtain rfl : c = c' := by rw [hc] at hc'; exact Option.some.inj hc'
  have k0 := h.c0
  have b0 : (0 : Int) ≤ j := by omega
  have b1 : (j : Int) < n := by omega
  have HC := Aside0.mk hcc
  have HL := Aside0.mk hcl
  have HO := Aside0.mk hco
  have H13 := Aside0.mk h13
  have H15 := Aside0.mk h15
  have HR := Aside0.mk hc
  clear hc hc' hcl hco hcc h h13 h15 hj
  have HB8 := Aside0.mk hb8
  clear hb8
  go_enter Try.func12, Try.ntmps12
  go_wp2_with (first | ((with_reducible refine gate_dst (N := 15) rfl ?_); (refine load_whole rfl 32 _ rfl ⟨gb, j * 28, none⟩ ?hx Try.underlying32 c (size32 HL.out) ?hc ?_); (case hx => first | rfl | (simp [Act.eval, add_at]; done) | (simp [Act.eval]; done)); (case hc => intro i_ u_ hu_; rw [add_at]; exact HC.out i_ u_ hu_)) | ((with_reducible refine gate_dst (N := 5) rfl ?_); (refine box_event ?hg (N := 5) ?hd (cs := zero32) (t := 32) ?hr ?_); (case hd => rfl); (case hg => rfl); (case hr => first | (go_simp; done) | (go_simp; rfl)); intro gc hgc w2 hbox hb2; have BX := Aside0.mk hbox; have B2 := Aside0.mk hb2; have GC := Aside0.mk hgc; clear hbox hb2 hgc) | ((with_reducible refine gate_store (t := 32) (p := 5) (v := .tmp 15) rfl ?_); (refine store_whole rfl rfl 32 (.tmp 5) (.tmp 15) rfl gc c ?hx ?hy zero32 BX.out (size32 HL.out) ?ho HO.out ?_); (case hx => rfl); (case hy => rfl); (case ho => rw [HL.out]; rfl); intro w3 hb3 hg3; obtain ⟨H3, q13, q15, HB3⟩ := boxed HM.out GC.out B2.out hb3 hg3 H13.out H15.out; clear hb3 hg3; have k03 := H3.out.c0) | ((with_reducible refine gate_store (t := 3) (p := 26) (v := .const (.int .i64 (-1))) rfl ?_); (refine store_one rfl rfl 3 (.tmp 26) _ rfl ⟨gb, j * 28 + 26, none⟩ (.int .i64 (-1)) ?hx rfl rfl size3 (H3.out.cell26 HR.out) (H3.out.fzb _) ?_); (case hx => first | rfl | (simp [Act.eval, add_at]; done) | (simp [Act.eval]; done)); intro w4 e4; have H4 := Aside0.mk (show Mem w0 w1 gb g bm n cap _ op nd D w4 from e4 ▸ H3.out.put HR.out (.int .i64 (-1)) rfl); clear e4; obtain ⟨vo, hvo, hRo⟩ := H4.out.c1; have HRo := Aside0.mk hRo; clear hRo; have hb4 := Aside0.mk (Below.refl w1.heap.size w4)) | ((with_reducible refine gate_builtin (b := .append) (xs := #[.tmp 31, .tmp 33]) rfl ?_); at_builtin; (refine Kd.R_append (Kd.int .i64) (w0 := w4) w1.heap.size rfl (.tmp 31) (.tmp 33) 47 3 (.int .i64 0) 8 rfl Try.underlying47 info3 rfl (by decide) (by decide) vo op (j : Int) [.int .i64 j] (fun _ => True) (fun k_ => some k_ ≠ vo.ownBlock) rfl rfl rfl (fun k_ hk_ => ⟨trivial, hk_⟩) (fun _ _ => trivial) HRo.out hb4.out H4.out.keep.1 HB8.out ?_); intro v5 w5 hr5 hb5 hg5 hat5; have HR5 := Aside0.mk hr5; have HG5 := Aside0.mk hg5; clear hr5 hb5 hg5 hat5; obtain ⟨A5, c5, e5⟩ := Kd.R_slice HR5.out; rw [List.length_append, List.length_singleton] at e5; subst e5) | ((with_reducible refine gate_store (t := 47) (p := 36) (v := .tmp 34) rfl ?_); (refine store_one rfl rfl 47 (.tmp 36) (.tmp 34) rfl ⟨g, 1, none⟩ _ rfl rfl rfl size47 (H4.out.after HRo.out HG5.out).1 (H4.out.after HRo.out HG5.out).2 ?_); intro w6 e6; have H6 := Aside0.mk (show Mem w0 w1 gb g bm n cap _ (op ++ [(j : Int)]) nd D w6 from e6 ▸ H4.out.opened HRo.out HG5.out HR5.out); clear e6))
  go_ret
  exact ⟨rfl, H6.out⟩

set_option maxRecDepth 100000 in
theorem note_bad {w0 w1 w : World} {gb g bm n cap nd : Nat} {rows : List (List Value)} {op : List Int} {D : DataW Unit} (h : Mem w0 w1 gb g bm n cap rows op nd D w) {j : Nat} (hj : j < n) {c : List Value} (hc : rows[j]? = some c) {s : Value} (h13 : c[13]? = some (.int .u8 125)) (h15 : c[15]? = some s) (hop : op = []) :
    Calls Try.prog 12 #[.pointer (some ⟨g, 0, none⟩), .int .i64 j] w fun e w' => e = .returned (.int .u16 51) ∧ Below w.heap.size w w' := by
  have HM := Aside0.mk h
  obtain ⟨c', hc', hcl, hco, hcc⟩ := h.elem hj
  obtain rfl : c = c' := by rw [hc] at hc'; exact Option.some.inj hc'
  have k0 := h.c0
  have b0 : (0 : Int) ≤ j := by omega
  have b1 : (j : Int) < n := by omega
  have HC := Aside0.mk hcc
  have HL := Aside0.mk hcl
  have HO := Aside0.mk hco
  have H13 := Aside0.mk h13
  have H15 := Aside0.mk h15
  have HR := Aside0.mk hc
  clear hc hc' hcl hco hcc h h13 h15 hj
  subst hop
  go_enter Try.func12, Try.ntmps12
  go_wp2_with (first | ((with_reducible refine gate_dst (N := 15) rfl ?_); (refine load_whole rfl 32 _ rfl ⟨gb, j * 28, none⟩ ?hx Try.underlying32 c (size32 HL.out) ?hc ?_); (case hx => first | rfl | (simp [Act.eval, add_at]; done) | (simp [Act.eval]; done)); (case hc => intro i_ u_ hu_; rw [add_at]; exact HC.out i_ u_ hu_)) | ((with_reducible refine gate_dst (N := 5) rfl ?_); (refine box_event ?hg (N := 5) ?hd (cs := zero32) (t := 32) ?hr ?_); (case hd => rfl); (case hg => rfl); (case hr => first | (go_simp; done) | (go_simp; rfl)); intro gc hgc w2 hbox hb2; have BX := Aside0.mk hbox; have B2 := Aside0.mk hb2; have GC := Aside0.mk hgc; clear hbox hb2 hgc) | ((with_reducible refine gate_store (t := 32) (p := 5) (v := .tmp 15) rfl ?_); (refine store_whole rfl rfl 32 (.tmp 5) (.tmp 15) rfl gc c ?hx ?hy zero32 BX.out (size32 HL.out) ?ho HO.out ?_); (case hx => rfl); (case hy => rfl); (case ho => rw [HL.out]; rfl); intro w3 hb3 hg3; obtain ⟨H3, q13, q15, HB3⟩ := boxed HM.out GC.out B2.out hb3 hg3 H13.out H15.out; clear hb3 hg3; obtain ⟨vo, hvo, hRo⟩ := H3.out.c1; obtain ⟨A5, c5, e5⟩ := Kd.R_slice hRo; simp only [List.length_nil] at e5; subst e5; clear hRo))
  go_ret
  exact ⟨rfl, HB3.out⟩

theorem R_take_int {k : IntKind} {e : Nat} {w : World} {base : Nat} {ok : Nat → Prop} {A : Option Addr} {n m c : Nat} {xs : List Int} (h : (Kd.int k).R e w base ok (.slice A n c) xs) (hm : m ≤ xs.length) : (Kd.int k).R e w base ok (.slice A m c) (xs.take m) := by
  obtain ⟨hn, _, _⟩ := Kd.R_reads' h
  obtain ⟨h0, inner, ho, hr⟩ := h
  subst hn
  have hl : (xs.take m).length = m := by simp; omega
  refine ⟨fun k hk => h0 k (by cases A <;> first | (simp [Value.ownBlock] at hk; done) | simpa [Value.ownBlock] using hk), inner.take (m * 1), by rw [hl]; exact own_take ho hm, ?_⟩
  refine ⟨by rw [hl, List.length_take, hr.1]; show min (m * 1) (xs.length * 1) = m * 1; omega, fun j p hj => ?_⟩
  rw [List.getElem?_take] at hj
  split at hj
  · rename_i hlt
    have := hr.2 j p hj
    rw [List.drop_take, List.take_take, Nat.min_eq_left (show (Kd.int k).sz ≤ m * 1 - j * (Kd.int k).sz by show 1 ≤ m * 1 - j * 1; omega)]
    exact this
  · cases hj

/-- The place that was opened last. -/
theorem Mem.top {w0 w1 w : World} {gb g bm n cap nd : Nat} {rows : List (List Value)} {op' : List Int} {q : Int} {D : DataW Unit} (h : Mem w0 w1 gb g bm n cap rows (op' ++ [q]) nd D w) :
    ∃ ob oc, w.cell? ⟨g, 1, none⟩ = some (.slice (some ⟨ob, 0, none⟩) (op'.length + 1) oc) ∧ w.cell? ⟨ob, op'.length, none⟩ = some (.int .i64 q) ∧ op'.length + 1 ≤ oc ∧
      Aside0 ((Kd.int .i64).R 3 w w1.heap.size (fun _ => True) (.slice (some ⟨ob, 0, none⟩) (op'.length + 1) oc) (op' ++ [q])) := by
  obtain ⟨vo, hvo, hR⟩ := h.c1
  obtain ⟨ob, oc, e5, _, _, _⟩ := Kd.R_form hR (by simp)
  rw [List.length_append, List.length_singleton] at e5
  subst e5
  obtain ⟨ce, h1, h2, h3, _⟩ := Kd.R_elem hR 0 (op'.length : Int) (by omega) (by omega)
  obtain ⟨_, h5, h6⟩ := Kd.R_reads' hR
  have h4 := h3 0 (.int .i64 q) (by
    have : ce = [.int .i64 q] := by simpa [Kd.int, Kd.scalar] using h2
    rw [this]; rfl)
  simp only [Int.toNat_natCast, Nat.add_zero] at h4
  exact ⟨ob, oc, hvo, by rw [← h4]; simp [Kd.int, Kd.scalar], h5, ⟨hR⟩⟩

theorem Mem.popped {w0 w1 w : World} {gb g bm n cap nd ob oc : Nat} {rows : List (List Value)} {op' : List Int} {q : Int} {D : DataW Unit} (h : Mem w0 w1 gb g bm n cap rows (op' ++ [q]) nd D w)
    (hR : (Kd.int .i64).R 3 w w1.heap.size (fun _ => True) (.slice (some ⟨ob, 0, none⟩) (op'.length + 1) oc) (op' ++ [q])) : Mem w0 w1 gb g bm n cap rows op' nd D (w.setCell ⟨g, 1, none⟩ (.slice (some ⟨ob, 0, none⟩) op'.length oc)) := by
  have hR2 := R_take_int hR (m := op'.length) (by simp)
  rw [List.take_left] at hR2
  exact h.opened hR ⟨rfl, rfl, rfl, Nat.le_refl _, fun _ _ _ => rfl⟩ hR2
theorem Mem.cell1 {w0 w1 w : World} {gb g bm n cap nd : Nat} {rows : List (List Value)} {op : List Int} {D : DataW Unit} (h : Mem w0 w1 gb g bm n cap rows op nd D w) : (w.cell? ⟨g, 1, none⟩).isSome = true := by
  obtain ⟨vo, h1, _⟩ := h.c1
  rw [h1]; rfl

set_option maxRecDepth 100000 in
theorem note_close {w0 w1 w : World} {gb g bm n cap nd : Nat} {rows : List (List Value)} {op : List Int} {D : DataW Unit} (h : Mem w0 w1 gb g bm n cap rows op nd D w) {j : Nat} (hj : j < n) {c : List Value} (hc : rows[j]? = some c) {s : Value} (h13 : c[13]? = some (.int .u8 125)) (h15 : c[15]? = some s) {op' : List Int} (bnd : (op'.length : Int) < 1000000000000) {q : Nat} (hop : op = op' ++ [(q : Int)]) {cq : List Value} (hq : rows[q]? = some cq) :
    Calls Try.prog 12 #[.pointer (some ⟨g, 0, none⟩), .int .i64 j] w fun e w' => e = .returned (.int .u16 0) ∧ Mem w0 w1 gb g bm n cap (rows.set q (cq.set 26 (.int .i64 j))) op' nd D w' := by
  have HM := Aside0.mk h
  obtain ⟨c', hc', hcl, hco, hcc⟩ := h.elem hj
  obtain rfl : c = c' := by rw [hc] at hc'; exact Option.some.inj hc'
  have k0 := h.c0
  have b0 : (0 : Int) ≤ j := by omega
  have b1 : (j : Int) < n := by omega
  have HC := Aside0.mk hcc
  have HL := Aside0.mk hcl
  have HO := Aside0.mk hco
  have H13 := Aside0.mk h13
  have H15 := Aside0.mk h15
  have HR := Aside0.mk hc
  clear hc hc' hcl hco hcc h h13 h15 hj
  subst hop
  have q1 : (q : Int) < n := by have := HM.out.len; have := (List.getElem?_eq_some_iff.1 hq).1; omega
  have q2 : (op'.length : Int) < (op'.length : Int) + 1 := by omega
  have HQ := Aside0.mk hq
  have hw : wrap64 (op'.length : Int) = op'.length := by unfold wrap64; omega
  clear hq bnd
  go_enter Try.func12, Try.ntmps12
  go_wp2_with (first | ((with_reducible refine gate_dst (N := 15) rfl ?_); (refine load_whole rfl 32 _ rfl ⟨gb, j * 28, none⟩ ?hx Try.underlying32 c (size32 HL.out) ?hc ?_); (case hx => first | rfl | (simp [Act.eval, add_at]; done) | (simp [Act.eval]; done)); (case hc => intro i_ u_ hu_; rw [add_at]; exact HC.out i_ u_ hu_)) | ((with_reducible refine gate_dst (N := 5) rfl ?_); (refine box_event ?hg (N := 5) ?hd (cs := zero32) (t := 32) ?hr ?_); (case hd => rfl); (case hg => rfl); (case hr => first | (go_simp; done) | (go_simp; rfl)); intro gc hgc w2 hbox hb2; have BX := Aside0.mk hbox; have B2 := Aside0.mk hb2; have GC := Aside0.mk hgc; clear hbox hb2 hgc) | ((with_reducible refine gate_store (t := 32) (p := 5) (v := .tmp 15) rfl ?_); (refine store_whole rfl rfl 32 (.tmp 5) (.tmp 15) rfl gc c ?hx ?hy zero32 BX.out (size32 HL.out) ?ho HO.out ?_); (case hx => rfl); (case hy => rfl); (case ho => rw [HL.out]; rfl); intro w3 hb3 hg3; obtain ⟨H3, q13, q15, HB3⟩ := boxed HM.out GC.out B2.out hb3 hg3 H13.out H15.out; clear hb3 hg3; have k03 := H3.out.c0; obtain ⟨ob, oc, k13, t13, oc1, HRo⟩ := H3.out.top))
  simp only [hw]
  go_still_tail 14, (by kernel_rfl)
  have H3d := Aside0.mk (H3.out.step (below_drew (Below.refl _ _)))
  clear k0 k03 k13 t13 oc1 q13 q15
  go_wp2_with (first | ((with_reducible refine gate_store (t := 3) (p := 60) (v := .tmp 58) rfl ?_); (refine store_one rfl rfl 3 (.tmp 60) (.tmp 58) rfl ⟨gb, q * 28 + 26, none⟩ (.int .i64 j) ?hx rfl rfl size3 (H3d.out.cell26 HQ.out) (H3d.out.fzb _) ?_); (case hx => first | rfl | (simp [Act.eval, add_at]; done) | (simp [Act.eval]; done)); intro w4 e4; have H4 := Aside0.mk (show Mem w0 w1 gb g bm n cap _ (op' ++ [(q : Int)]) nd D w4 from e4 ▸ H3d.out.put HQ.out (.int .i64 j) rfl); clear e4; obtain ⟨ob4, oc4, k14, t14, oc14, HR4⟩ := H4.out.top) | ((with_reducible refine gate_store (t := 47) (p := 69) (v := .tmp 67) rfl ?_); (refine store_one rfl rfl 47 (.tmp 69) (.tmp 67) rfl ⟨g, 1, none⟩ (.slice (some ⟨ob4, 0, none⟩) op'.length oc4) rfl ?hy rfl size47 H4.out.cell1 (H4.out.fz _) ?_); (case hy => first | rfl | (simp [Act.eval]; done)); intro w6 e6; have H6 := Aside0.mk (show Mem w0 w1 gb g bm n cap _ op' nd D w6 from e6 ▸ H4.out.popped HR4.out); clear e6))
  go_ret
  exact ⟨rfl, H6.out⟩

/-- Looking up a label. -/
theorem Mem.look {w0 w1 w : World} {gb g bm n cap nd : Nat} {rows : List (List Value)} {op : List Int} {D : DataW Unit} (h : Mem w0 w1 gb g bm n cap rows op nd D w) {s : ByteArray} (hs : s.size ≤ maxLen) :
    ∃ x : Int, (∀ q, (Instr.lookup 46 (.map (some bm)) (.string s) true).run Try.prog (w.drewN q) = .ok (.tuple #[.int .i64 x, .bool (Maps.has D (.string s.data.toList))]) (w.drewN q)) ∧ D.atKey (.string s.data.toList) (.lit (.int .i64 0)) = .lit (.int .i64 x) := by
  have hk : keyOf Try.prog 9 (.string s) = some (.string s.data.toList) := keyOf_string_mk Try.underlying9 hs
  have one : ∀ q, ∃ x : Int, (Instr.lookup 46 (.map (some bm)) (.string s) true).run Try.prog (w.drewN q) = .ok (.tuple #[.int .i64 x, .bool (Maps.has D (.string s.data.toList))]) (w.drewN q) ∧ D.atKey (.string s.data.toList) (.lit (.int .i64 0)) = .lit (.int .i64 x) := by
    intro q
    have hm := (h.step (pw_below_drewN (Below.refl _ _) q)).map
    obtain ⟨v, ps, hrun, hv⟩ := hm.look_ok law9 Try.underlying46 (zero3 _) (plainElem_int Try.underlying3 (by decide)) hk
    obtain ⟨x, rfl, hc, _⟩ := plainElem_int_inv Try.underlying3 hv
    exact ⟨x, hrun, congrArg Prod.fst hc⟩
  obtain ⟨x, _, hx⟩ := one 0
  refine ⟨x, fun q => ?_, hx⟩
  obtain ⟨y, hy, hy2⟩ := one q
  have : y = x := by rw [hx] at hy2; simpa using hy2.symm
  rw [← this]
  exact hy

set_option maxRecDepth 100000 in
theorem note_dup {w0 w1 w : World} {gb g bm n cap nd : Nat} {rows : List (List Value)} {op : List Int} {D : DataW Unit} (h : Mem w0 w1 gb g bm n cap rows op nd D w) {j : Nat} (hj : j < n) {c : List Value} (hc : rows[j]? = some c) {s : ByteArray} (h13 : c[13]? = some (.int .u8 58)) (h15 : c[15]? = some (.string s)) (hs : s.size ≤ maxLen) (hh : Maps.has D (.string s.data.toList) = true) :
    Calls Try.prog 12 #[.pointer (some ⟨g, 0, none⟩), .int .i64 j] w fun e w' => e = .returned (.int .u16 32) ∧ Below w.heap.size w w' := by
  have HM := Aside0.mk h
  obtain ⟨c', hc', hcl, hco, hcc⟩ := h.elem hj
  obtain rfl : c = c' := by rw [hc] at hc'; exact Option.some.inj hc'
  have k0 := h.c0
  have b0 : (0 : Int) ≤ j := by omega
  have b1 : (j : Int) < n := by omega
  have HC := Aside0.mk hcc
  have HL := Aside0.mk hcl
  have HO := Aside0.mk hco
  have H13 := Aside0.mk h13
  have H15 := Aside0.mk h15
  have HR := Aside0.mk hc
  clear hc hc' hcl hco hcc h h13 h15 hj
  have HS := Aside0.mk hs
  have HH := Aside0.mk hh
  clear hs hh
  go_enter Try.func12, Try.ntmps12
  go_wp2_with (first | ((with_reducible refine gate_dst (N := 15) rfl ?_); (refine load_whole rfl 32 _ rfl ⟨gb, j * 28, none⟩ ?hx Try.underlying32 c (size32 HL.out) ?hc ?_); (case hx => first | rfl | (simp [Act.eval, add_at]; done) | (simp [Act.eval]; done)); (case hc => intro i_ u_ hu_; rw [add_at]; exact HC.out i_ u_ hu_)) | ((with_reducible refine gate_dst (N := 5) rfl ?_); (refine box_event ?hg (N := 5) ?hd (cs := zero32) (t := 32) ?hr ?_); (case hd => rfl); (case hg => rfl); (case hr => first | (go_simp; done) | (go_simp; rfl)); intro gc hgc w2 hbox hb2; have BX := Aside0.mk hbox; have B2 := Aside0.mk hb2; have GC := Aside0.mk hgc; clear hbox hb2 hgc) | ((with_reducible refine gate_store (t := 32) (p := 5) (v := .tmp 15) rfl ?_); (refine store_whole rfl rfl 32 (.tmp 5) (.tmp 15) rfl gc c ?hx ?hy zero32 BX.out (size32 HL.out) ?ho HO.out ?_); (case hx => rfl); (case hy => rfl); (case ho => rw [HL.out]; rfl); intro w3 hb3 hg3; obtain ⟨H3, q13, q15, HB3⟩ := boxed HM.out GC.out B2.out hb3 hg3 H13.out H15.out; clear hb3 hg3; have k23 := H3.out.c2; obtain ⟨x, hrun, _⟩ := H3.out.look HS.out; rw [HH.out] at hrun))
  go_quiet (fail)
  go_wp2
  go_ret
  exact ⟨rfl, pw_below_drewN HB3.out _⟩

set_option maxRecDepth 100000 in
theorem note_new {w0 w1 w : World} {gb g bm n cap nd : Nat} {rows : List (List Value)} {op : List Int} {D : DataW Unit} (h : Mem w0 w1 gb g bm n cap rows op nd D w) {j : Nat} (hj : j < n) {c : List Value} (hc : rows[j]? = some c) {s : ByteArray} (h13 : c[13]? = some (.int .u8 58)) (h15 : c[15]? = some (.string s)) (hs : s.size ≤ maxLen) (hh : Maps.has D (.string s.data.toList) = false) (hnd : nd < maxLen) (hwf : (Lit.int .i64 j).wf = true) :
    Calls Try.prog 12 #[.pointer (some ⟨g, 0, none⟩), .int .i64 j] w fun e w' => e = .returned (.int .u16 0) ∧ Mem w0 w1 gb g bm n cap rows op (nd + 1) (D.put (.string s.data.toList) (.lit (.int .i64 j))) w' := by
  have HM := Aside0.mk h
  obtain ⟨c', hc', hcl, hco, hcc⟩ := h.elem hj
  obtain rfl : c = c' := by rw [hc] at hc'; exact Option.some.inj hc'
  have k0 := h.c0
  have b0 : (0 : Int) ≤ j := by omega
  have b1 : (j : Int) < n := by omega
  have HC := Aside0.mk hcc
  have HL := Aside0.mk hcl
  have HO := Aside0.mk hco
  have H13 := Aside0.mk h13
  have H15 := Aside0.mk h15
  have HR := Aside0.mk hc
  clear hc hc' hcl hco hcc h h13 h15 hj
  have HS := Aside0.mk hs
  have HH := Aside0.mk hh
  have HN := Aside0.mk hnd
  have HW := Aside0.mk hwf
  clear hs hh hnd hwf
  go_enter Try.func12, Try.ntmps12
  go_wp2_with (first | ((with_reducible refine gate_dst (N := 15) rfl ?_); (refine load_whole rfl 32 _ rfl ⟨gb, j * 28, none⟩ ?hx Try.underlying32 c (size32 HL.out) ?hc ?_); (case hx => first | rfl | (simp [Act.eval, add_at]; done) | (simp [Act.eval]; done)); (case hc => intro i_ u_ hu_; rw [add_at]; exact HC.out i_ u_ hu_)) | ((with_reducible refine gate_dst (N := 5) rfl ?_); (refine box_event ?hg (N := 5) ?hd (cs := zero32) (t := 32) ?hr ?_); (case hd => rfl); (case hg => rfl); (case hr => first | (go_simp; done) | (go_simp; rfl)); intro gc hgc w2 hbox hb2; have BX := Aside0.mk hbox; have B2 := Aside0.mk hb2; have GC := Aside0.mk hgc; clear hbox hb2 hgc) | ((with_reducible refine gate_store (t := 32) (p := 5) (v := .tmp 15) rfl ?_); (refine store_whole rfl rfl 32 (.tmp 5) (.tmp 15) rfl gc c ?hx ?hy zero32 BX.out (size32 HL.out) ?ho HO.out ?_); (case hx => rfl); (case hy => rfl); (case ho => rw [HL.out]; rfl); intro w3 hb3 hg3; obtain ⟨H3, q13, q15, HB3⟩ := boxed HM.out GC.out B2.out hb3 hg3 H13.out H15.out; clear hb3 hg3; have k23 := H3.out.c2; obtain ⟨x, hrun, _⟩ := H3.out.look HS.out; rw [HH.out] at hrun))
  go_quiet (fail)
  go_wp2
  have H4q := Aside0.mk (H3.out.step (pw_below_drewN (Below.refl _ _) nq))
  have q15d : (w3.drewN nq).cell? ⟨gc, 15, none⟩ = _ := q15
  have k23d : (w3.drewN nq).cell? ⟨g, 2, none⟩ = _ := k23
  clear hrun k0 k23 q13 q15
  generalize w3.drewN nq = w5 at H4q q15d k23d ⊢
  go_still_tail 7, (by kernel_rfl)
  have H3d := Aside0.mk (H4q.out.step (below_drew (Below.refl _ _)))
  clear q15d k23d
  go_wp2_with (first | (at_mapUpdate; (refine wpList_mapUpdate_own _ rfl _ _ _ 46 rfl 9 3 law9 Try.underlying46 _ bm nd _ rfl (H3d.out.map) HN.out _ _ _ rfl rfl (keyOf_string_mk Try.underlying9 HS.out) _ [] (plainElem_int Try.underlying3 HW.out) ?_); intro w4 hown4 hgrow4; have H4 := Aside0.mk (H3d.out.put_label hgrow4 hown4); clear hown4 hgrow4))
  go_ret
  exact ⟨rfl, H4.out⟩

end Go.Proofs.Ytgennlcbmepchaa.PAll
