/- What lead does to the resolver's memory, branch by branch. (Written by wip/flat/gen_lead.py.) -/
import Derived.Test.YtgennlcbmepchaaExtNote
namespace Go.Proofs.Ytgennlcbmepchaa.PAll
open Go.RowKit Go.Maps Go.WideMaps Go.Proofs.YtgennlcbmepchaaW.PrintWords Go.Proofs.YtgennlcbmepchaaW.PrintLast Go.Proofs.YtgennlcbmepchaaW.PrintMore

set_option maxRecDepth 100000 in
theorem lead_bad {w0 w1 w : World} {gb g bm n cap nd : Nat} {rows : List (List Value)} {op : List Int} {D : DataW Unit} (h : Mem w0 w1 gb g bm n cap rows op nd D w) {j : Nat} (hj : j < n) {c : List Value} (hc : rows[j]? = some c) (h13 : c[13]? = some (.int .u8 123)) {x : Int} (h26 : c[26]? = some (.int .i64 x)) (hx : x < 0) :
    Calls Try.prog 13 #[.pointer (some ⟨g, 0, none⟩), .int .i64 j] w fun e w' => e = .returned (.int .u16 51) ∧ Below w.heap.size w w' := by
  have HM := Aside0.mk h
  obtain ⟨c', hc', hcl, hco, hcc⟩ := h.elem hj
  obtain rfl : c = c' := by rw [hc] at hc'; exact Option.some.inj hc'
  have k0 := h.c0
  have k2 := h.c2
  have b0 : (0 : Int) ≤ j := by omega
  have b1 : (j : Int) < n := by omega
  have q13 := hcc 13 _ h13
  have q26 := hcc 26 _ h26
  clear h13
  clear h26
  have HR := Aside0.mk hc
  clear hc hc' hcl hco hcc h hj
  go_enter Try.func13, Try.ntmps13
  go_wp2
  go_ret
  exact ⟨rfl, Below.refl _ _⟩

set_option maxRecDepth 100000 in
theorem lead_open {w0 w1 w : World} {gb g bm n cap nd : Nat} {rows : List (List Value)} {op : List Int} {D : DataW Unit} (h : Mem w0 w1 gb g bm n cap rows op nd D w) {j : Nat} (hj : j < n) {c : List Value} (hc : rows[j]? = some c) (h13 : c[13]? = some (.int .u8 123)) {x : Int} (h26 : c[26]? = some (.int .i64 x)) (hx : 0 ≤ x) :
    Calls Try.prog 13 #[.pointer (some ⟨g, 0, none⟩), .int .i64 j] w fun e w' => e = .returned (.int .u16 0) ∧ Mem w0 w1 gb g bm n cap rows op nd D w' := by
  have HM := Aside0.mk h
  obtain ⟨c', hc', hcl, hco, hcc⟩ := h.elem hj
  obtain rfl : c = c' := by rw [hc] at hc'; exact Option.some.inj hc'
  have k0 := h.c0
  have k2 := h.c2
  have b0 : (0 : Int) ≤ j := by omega
  have b1 : (j : Int) < n := by omega
  have q13 := hcc 13 _ h13
  have q26 := hcc 26 _ h26
  clear h13
  clear h26
  have HR := Aside0.mk hc
  clear hc hc' hcl hco hcc h hj
  go_enter Try.func13, Try.ntmps13
  go_wp2
  go_ret
  exact ⟨rfl, HM.out⟩

set_option maxRecDepth 100000 in
theorem lead_other {w0 w1 w : World} {gb g bm n cap nd : Nat} {rows : List (List Value)} {op : List Int} {D : DataW Unit} (h : Mem w0 w1 gb g bm n cap rows op nd D w) {j : Nat} (hj : j < n) {c : List Value} (hc : rows[j]? = some c) {o : Int} (h13 : c[13]? = some (.int .u8 o)) (h123 : (o == 123) = false) (h98 : (o == 98) = false) (h116 : (o == 116) = false) :
    Calls Try.prog 13 #[.pointer (some ⟨g, 0, none⟩), .int .i64 j] w fun e w' => e = .returned (.int .u16 0) ∧ Mem w0 w1 gb g bm n cap rows op nd D w' := by
  have HM := Aside0.mk h
  obtain ⟨c', hc', hcl, hco, hcc⟩ := h.elem hj
  obtain rfl : c = c' := by rw [hc] at hc'; exact Option.some.inj hc'
  have k0 := h.c0
  have k2 := h.c2
  have b0 : (0 : Int) ≤ j := by omega
  have b1 : (j : Int) < n := by omega
  have q13 := hcc 13 _ h13
  clear h13
  have HR := Aside0.mk hc
  clear hc hc' hcl hco hcc h hj
  go_enter Try.func13, Try.ntmps13
  go_wp2
  go_ret
  exact ⟨rfl, HM.out⟩

set_option maxRecDepth 100000 in
theorem lead_end98 {w0 w1 w : World} {gb g bm n cap nd : Nat} {rows : List (List Value)} {op : List Int} {D : DataW Unit} (h : Mem w0 w1 gb g bm n cap rows op nd D w) {j : Nat} (hj : j < n) {c : List Value} (hc : rows[j]? = some c) {s : ByteArray} (h13 : c[13]? = some (.int .u8 98)) (h15 : c[15]? = some (.string s)) (hs : s.size ≤ maxLen) (he : s.toList.isEmpty = true) :
    Calls Try.prog 13 #[.pointer (some ⟨g, 0, none⟩), .int .i64 j] w fun e w' => e = .returned (.int .u16 0) ∧ Mem w0 w1 gb g bm n cap (rows.set j (c.set 26 (.int .i64 n))) op nd D w' := by
  have HM := Aside0.mk h
  obtain ⟨c', hc', hcl, hco, hcc⟩ := h.elem hj
  obtain rfl : c = c' := by rw [hc] at hc'; exact Option.some.inj hc'
  have k0 := h.c0
  have k2 := h.c2
  have b0 : (0 : Int) ≤ j := by omega
  have b1 : (j : Int) < n := by omega
  have q13 := hcc 13 _ h13
  have q15 := hcc 15 _ h15
  clear h13
  clear h15
  have HR := Aside0.mk hc
  clear hc hc' hcl hco hcc h hj
  obtain ⟨x, hrun, hx0⟩ := HM.out.look hs
  clear hx0 hs
  go_enter Try.func13, Try.ntmps13
  go_wp2
  go_quiet (fail)
  have Hq := Aside0.mk (HM.out.step (pw_below_drewN (Below.refl _ _) nq))
  clear hrun
  go_wp2_with (first | ((with_reducible refine gate_store (t := 3) (p := 57) (v := .tmp 55) rfl ?_); (refine store_one rfl rfl 3 (.tmp 57) (.tmp 55) rfl ⟨gb, j * 28 + 26, none⟩ (.int .i64 n) ?hx ?hy rfl size3 (Hq.out.cell26 HR.out) (Hq.out.fzb _) ?_); (case hx => first | rfl | (simp [Act.eval, add_at]; done) | (simp [Act.eval]; done)); (case hy => first | rfl | (simp [Act.eval]; done)); intro w4 e4; have H4 := Aside0.mk (show Mem w0 w1 gb g bm n cap _ op nd D w4 from e4 ▸ Hq.out.put HR.out (.int .i64 n) rfl); clear e4))
  go_ret
  exact ⟨rfl, H4.out⟩

set_option maxRecDepth 100000 in
theorem lead_to98 {w0 w1 w : World} {gb g bm n cap nd : Nat} {rows : List (List Value)} {op : List Int} {D : DataW Unit} (h : Mem w0 w1 gb g bm n cap rows op nd D w) {j : Nat} (hj : j < n) {c : List Value} (hc : rows[j]? = some c) {s : ByteArray} (h13 : c[13]? = some (.int .u8 98)) (h15 : c[15]? = some (.string s)) (hs : s.size ≤ maxLen) (he : s.toList.isEmpty = false) (hh : Maps.has D (.string s.data.toList) = true) {y : Int} (hy : D.atKey (.string s.data.toList) (.lit (.int .i64 0)) = .lit (.int .i64 y)) :
    Calls Try.prog 13 #[.pointer (some ⟨g, 0, none⟩), .int .i64 j] w fun e w' => e = .returned (.int .u16 0) ∧ Mem w0 w1 gb g bm n cap (rows.set j (c.set 26 (.int .i64 y))) op nd D w' := by
  have HM := Aside0.mk h
  obtain ⟨c', hc', hcl, hco, hcc⟩ := h.elem hj
  obtain rfl : c = c' := by rw [hc] at hc'; exact Option.some.inj hc'
  have k0 := h.c0
  have k2 := h.c2
  have b0 : (0 : Int) ≤ j := by omega
  have b1 : (j : Int) < n := by omega
  have q13 := hcc 13 _ h13
  have q15 := hcc 15 _ h15
  clear h13
  clear h15
  have HR := Aside0.mk hc
  clear hc hc' hcl hco hcc h hj
  obtain ⟨x, hrun, hx0⟩ := HM.out.look hs
  obtain rfl : x = y := by rw [hy] at hx0; simpa using hx0.symm
  rw [hh] at hrun
  clear hx0 hs hh hy
  go_enter Try.func13, Try.ntmps13
  go_wp2
  go_quiet (fail)
  have Hq := Aside0.mk (HM.out.step (pw_below_drewN (Below.refl _ _) nq))
  clear hrun
  go_wp2_with (first | ((with_reducible refine gate_store (t := 3) (p := 57) (v := .tmp 55) rfl ?_); (refine store_one rfl rfl 3 (.tmp 57) (.tmp 55) rfl ⟨gb, j * 28 + 26, none⟩ (.int .i64 x) ?hx ?hy rfl size3 (Hq.out.cell26 HR.out) (Hq.out.fzb _) ?_); (case hx => first | rfl | (simp [Act.eval, add_at]; done) | (simp [Act.eval]; done)); (case hy => first | rfl | (simp [Act.eval]; done)); intro w4 e4; have H4 := Aside0.mk (show Mem w0 w1 gb g bm n cap _ op nd D w4 from e4 ▸ Hq.out.put HR.out (.int .i64 x) rfl); clear e4))
  go_ret
  exact ⟨rfl, H4.out⟩

set_option maxRecDepth 100000 in
theorem lead_not98 {w0 w1 w : World} {gb g bm n cap nd : Nat} {rows : List (List Value)} {op : List Int} {D : DataW Unit} (h : Mem w0 w1 gb g bm n cap rows op nd D w) {j : Nat} (hj : j < n) {c : List Value} (hc : rows[j]? = some c) {s : ByteArray} (h13 : c[13]? = some (.int .u8 98)) (h15 : c[15]? = some (.string s)) (hs : s.size ≤ maxLen) (he : s.toList.isEmpty = false) (hh : Maps.has D (.string s.data.toList) = false) :
    Calls Try.prog 13 #[.pointer (some ⟨g, 0, none⟩), .int .i64 j] w fun e w' => e = .returned (.int .u16 50) ∧ Below w.heap.size w w' := by
  have HM := Aside0.mk h
  obtain ⟨c', hc', hcl, hco, hcc⟩ := h.elem hj
  obtain rfl : c = c' := by rw [hc] at hc'; exact Option.some.inj hc'
  have k0 := h.c0
  have k2 := h.c2
  have b0 : (0 : Int) ≤ j := by omega
  have b1 : (j : Int) < n := by omega
  have q13 := hcc 13 _ h13
  have q15 := hcc 15 _ h15
  clear h13
  clear h15
  have HR := Aside0.mk hc
  clear hc hc' hcl hco hcc h hj
  obtain ⟨x, hrun, hx0⟩ := HM.out.look hs
  rw [hh] at hrun
  clear hx0 hs hh
  go_enter Try.func13, Try.ntmps13
  go_wp2
  go_quiet (fail)
  have Hq := Aside0.mk (HM.out.step (pw_below_drewN (Below.refl _ _) nq))
  clear hrun
  go_wp2
  go_ret
  exact ⟨rfl, pw_below_drewN (Below.refl _ _) _⟩

set_option maxRecDepth 100000 in
theorem lead_end116 {w0 w1 w : World} {gb g bm n cap nd : Nat} {rows : List (List Value)} {op : List Int} {D : DataW Unit} (h : Mem w0 w1 gb g bm n cap rows op nd D w) {j : Nat} (hj : j < n) {c : List Value} (hc : rows[j]? = some c) {s : ByteArray} (h13 : c[13]? = some (.int .u8 116)) (h15 : c[15]? = some (.string s)) (hs : s.size ≤ maxLen) (he : s.toList.isEmpty = true) :
    Calls Try.prog 13 #[.pointer (some ⟨g, 0, none⟩), .int .i64 j] w fun e w' => e = .returned (.int .u16 0) ∧ Mem w0 w1 gb g bm n cap (rows.set j (c.set 26 (.int .i64 n))) op nd D w' := by
  have HM := Aside0.mk h
  obtain ⟨c', hc', hcl, hco, hcc⟩ := h.elem hj
  obtain rfl : c = c' := by rw [hc] at hc'; exact Option.some.inj hc'
  have k0 := h.c0
  have k2 := h.c2
  have b0 : (0 : Int) ≤ j := by omega
  have b1 : (j : Int) < n := by omega
  have q13 := hcc 13 _ h13
  have q15 := hcc 15 _ h15
  clear h13
  clear h15
  have HR := Aside0.mk hc
  clear hc hc' hcl hco hcc h hj
  obtain ⟨x, hrun, hx0⟩ := HM.out.look hs
  clear hx0 hs
  go_enter Try.func13, Try.ntmps13
  go_wp2
  go_quiet (fail)
  have Hq := Aside0.mk (HM.out.step (pw_below_drewN (Below.refl _ _) nq))
  clear hrun
  go_wp2_with (first | ((with_reducible refine gate_store (t := 3) (p := 57) (v := .tmp 55) rfl ?_); (refine store_one rfl rfl 3 (.tmp 57) (.tmp 55) rfl ⟨gb, j * 28 + 26, none⟩ (.int .i64 n) ?hx ?hy rfl size3 (Hq.out.cell26 HR.out) (Hq.out.fzb _) ?_); (case hx => first | rfl | (simp [Act.eval, add_at]; done) | (simp [Act.eval]; done)); (case hy => first | rfl | (simp [Act.eval]; done)); intro w4 e4; have H4 := Aside0.mk (show Mem w0 w1 gb g bm n cap _ op nd D w4 from e4 ▸ Hq.out.put HR.out (.int .i64 n) rfl); clear e4))
  go_ret
  exact ⟨rfl, H4.out⟩

set_option maxRecDepth 100000 in
theorem lead_to116 {w0 w1 w : World} {gb g bm n cap nd : Nat} {rows : List (List Value)} {op : List Int} {D : DataW Unit} (h : Mem w0 w1 gb g bm n cap rows op nd D w) {j : Nat} (hj : j < n) {c : List Value} (hc : rows[j]? = some c) {s : ByteArray} (h13 : c[13]? = some (.int .u8 116)) (h15 : c[15]? = some (.string s)) (hs : s.size ≤ maxLen) (he : s.toList.isEmpty = false) (hh : Maps.has D (.string s.data.toList) = true) {y : Int} (hy : D.atKey (.string s.data.toList) (.lit (.int .i64 0)) = .lit (.int .i64 y)) :
    Calls Try.prog 13 #[.pointer (some ⟨g, 0, none⟩), .int .i64 j] w fun e w' => e = .returned (.int .u16 0) ∧ Mem w0 w1 gb g bm n cap (rows.set j (c.set 26 (.int .i64 y))) op nd D w' := by
  have HM := Aside0.mk h
  obtain ⟨c', hc', hcl, hco, hcc⟩ := h.elem hj
  obtain rfl : c = c' := by rw [hc] at hc'; exact Option.some.inj hc'
  have k0 := h.c0
  have k2 := h.c2
  have b0 : (0 : Int) ≤ j := by omega
  have b1 : (j : Int) < n := by omega
  have q13 := hcc 13 _ h13
  have q15 := hcc 15 _ h15
  clear h13
  clear h15
  have HR := Aside0.mk hc
  clear hc hc' hcl hco hcc h hj
  obtain ⟨x, hrun, hx0⟩ := HM.out.look hs
  obtain rfl : x = y := by rw [hy] at hx0; simpa using hx0.symm
  rw [hh] at hrun
  clear hx0 hs hh hy
  go_enter Try.func13, Try.ntmps13
  go_wp2
  go_quiet (fail)
  have Hq := Aside0.mk (HM.out.step (pw_below_drewN (Below.refl _ _) nq))
  clear hrun
  go_wp2_with (first | ((with_reducible refine gate_store (t := 3) (p := 57) (v := .tmp 55) rfl ?_); (refine store_one rfl rfl 3 (.tmp 57) (.tmp 55) rfl ⟨gb, j * 28 + 26, none⟩ (.int .i64 x) ?hx ?hy rfl size3 (Hq.out.cell26 HR.out) (Hq.out.fzb _) ?_); (case hx => first | rfl | (simp [Act.eval, add_at]; done) | (simp [Act.eval]; done)); (case hy => first | rfl | (simp [Act.eval]; done)); intro w4 e4; have H4 := Aside0.mk (show Mem w0 w1 gb g bm n cap _ op nd D w4 from e4 ▸ Hq.out.put HR.out (.int .i64 x) rfl); clear e4))
  go_ret
  exact ⟨rfl, H4.out⟩

set_option maxRecDepth 100000 in
theorem lead_not116 {w0 w1 w : World} {gb g bm n cap nd : Nat} {rows : List (List Value)} {op : List Int} {D : DataW Unit} (h : Mem w0 w1 gb g bm n cap rows op nd D w) {j : Nat} (hj : j < n) {c : List Value} (hc : rows[j]? = some c) {s : ByteArray} (h13 : c[13]? = some (.int .u8 116)) (h15 : c[15]? = some (.string s)) (hs : s.size ≤ maxLen) (he : s.toList.isEmpty = false) (hh : Maps.has D (.string s.data.toList) = false) :
    Calls Try.prog 13 #[.pointer (some ⟨g, 0, none⟩), .int .i64 j] w fun e w' => e = .returned (.int .u16 50) ∧ Below w.heap.size w w' := by
  have HM := Aside0.mk h
  obtain ⟨c', hc', hcl, hco, hcc⟩ := h.elem hj
  obtain rfl : c = c' := by rw [hc] at hc'; exact Option.some.inj hc'
  have k0 := h.c0
  have k2 := h.c2
  have b0 : (0 : Int) ≤ j := by omega
  have b1 : (j : Int) < n := by omega
  have q13 := hcc 13 _ h13
  have q15 := hcc 15 _ h15
  clear h13
  clear h15
  have HR := Aside0.mk hc
  clear hc hc' hcl hco hcc h hj
  obtain ⟨x, hrun, hx0⟩ := HM.out.look hs
  rw [hh] at hrun
  clear hx0 hs hh
  go_enter Try.func13, Try.ntmps13
  go_wp2
  go_quiet (fail)
  have Hq := Aside0.mk (HM.out.step (pw_below_drewN (Below.refl _ _) nq))
  clear hrun
  go_wp2
  go_ret
  exact ⟨rfl, pw_below_drewN (Below.refl _ _) _⟩

end Go.Proofs.Ytgennlcbmepchaa.PAll
