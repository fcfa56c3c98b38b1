/- subst.Map: of pairs, the first whose From a cell is. -/
import Derived.Test.YtfgccmgfkfhfcaaExtText
import Derived.Maps.OwnSet
namespace Go.Proofs.Ytfgccmgfkfhfcaa.PAll
open Go.RowKit Go.Maps Go.Proofs.YtfgccmgfkfhfcaaW.PrintWords Go.Proofs.YtfgccmgfkfhfcaaW.PrintLast Go.Proofs.YtfgccmgfkfhfcaaW.PrintMore
set_option linter.unusedVariables false
set_option linter.unusedSimpArgs false
def wf32 (x : Int) : Bool := (Lit.int .i32 x).wf
/-- What the first of pairs with this From has. -/
def mapC (ps : List S31) (c : Int) : Option Int := (ps.find? (fun p => p.f0 == c)).map (·.f1)
theorem mapC_snoc (ps : List S31) (p : S31) (c : Int) : mapC (ps ++ [p]) c = (mapC ps c).or (if p.f0 = c then some p.f1 else none) := by
  unfold mapC
  rw [List.find?_append]
  cases ps.find? (fun p => p.f0 == c) with
  | none => by_cases h : p.f0 = c <;> simp [h]
  | some q => simp
/-- The map reads as the pairs say. -/
def MI (ps : List S31) (D : DataW Unit) : Prop := IsMap D ∧ ∀ c, has D (.int .i32 c) = (mapC ps c).isSome ∧ D.atKey (.int .i32 c) (.lit (.int .i32 0)) = .lit (.int .i32 ((mapC ps c).getD 0))
theorem MI_nil : MI [] (.map []) := ⟨isMap_empty, fun c => ⟨rfl, rfl⟩⟩
theorem MI_old {ps : List S31} {D : DataW Unit} (h : MI ps D) (p : S31) (hp : (mapC ps p.f0).isSome = true) : MI (ps ++ [p]) D := by
  refine ⟨h.1, fun c => ?_⟩
  have e : mapC (ps ++ [p]) c = mapC ps c := by
    rw [mapC_snoc]
    by_cases hc : p.f0 = c
    · subst hc
      obtain ⟨y, hy⟩ := Option.isSome_iff_exists.1 hp
      rw [hy]; rfl
    · rw [if_neg hc]; cases mapC ps c <;> rfl
  rw [e]
  exact h.2 c
theorem lit_ne {a b : Int} (h : a ≠ b) : (Lit.int .i32 a) ≠ Lit.int .i32 b := fun e => h (by injection e)
theorem MI_new {ps : List S31} {D : DataW Unit} (h : MI ps D) (p : S31) (hp : (mapC ps p.f0).isSome = false) : MI (ps ++ [p]) (D.put (.int .i32 p.f0) (.lit (.int .i32 p.f1))) := by
  refine ⟨h.1.put _ _, fun c => ?_⟩
  rw [mapC_snoc]
  by_cases hc : p.f0 = c
  · subst hc
    rw [has_put_same h.1 (by trivial), atKey_put_same h.1 (by trivial), if_pos rfl]
    cases hm : mapC ps p.f0 with
    | none => exact ⟨rfl, rfl⟩
    | some y => rw [hm] at hp; cases hp
  · rw [has_put_other (lit_ne (Ne.symm hc)), atKey_put_other (lit_ne (Ne.symm hc)), if_neg hc]
    rw [show (mapC ps c).or none = mapC ps c by cases mapC ps c <;> rfl]
    exact h.2 c
theorem zero24 (w : World) : (zeroValue 24).run Try.prog w = .ok (.int .i32 0) w := by kernel_rfl
theorem law24 : Keyed Try.prog 24 := int_keyed Try.underlying24
theorem take_snoc {α : Type} (l : List α) (d : α) {k : Nat} (h : k < l.length) : l.take (k + 1) = l.take k ++ [l.getD k d] := by
  rw [List.take_succ_eq_append_getElem h, List.getD_eq_getElem?_getD, List.getElem?_eq_getElem h]; rfl
theorem meas_k {n k : Nat} (h : k < n) (hw : wrap64 ((k : Int) + 1) = (k : Int) + 1) : n - (intOf (.int .i64 (wrap64 ((k : Int) + 1)))).toNat < n - (intOf (.int .i64 (k : Int))).toNat := by
  rw [hw]
  show n - ((k : Int) + 1).toNat < n - (k : Int).toNat
  omega
theorem meas_of {n k : Nat} (h : k < n) : n - (intOf (.int .i64 ((k : Int) + 1))).toNat < n - (intOf (.int .i64 (k : Int))).toNat := by
  show n - ((k : Int) + 1).toNat < n - (k : Int).toNat
  omega
theorem owns_block {w w' : World} {b n : Nat} {D : DataW Unit} {R : Value → Option (DataW Unit × List MemPlace)} (h : w.ownsMap Try.prog 24 R b n D) (e : w'.heap[b]? = w.heap[b]?) : w'.ownsMap Try.prog 24 R b n D := by
  obtain ⟨es, clock, hb, F, hs, hD⟩ := h
  exact ⟨es, clock, e.trans hb, F, hs, hD⟩
theorem lit_eq {a b : Int} (h : (.lit (.int .i32 a) : DataW Unit) = .lit (.int .i32 b)) : b = a := by injection h with h; injection h with _ h; exact h.symm
theorem map_snoc (f : Int → Int) (l : List Int) {k : Nat} (h : k < l.length) : (l.take (k + 1)).map f = (l.take k).map f ++ [f (l.getD k 0)] := by rw [take_snoc l 0 h]; simp
set_option maxHeartbeats 1000000 in
set_option maxRecDepth 100000 in
theorem map_calls (A0 : Option Addr) (c0 : Nat) (l0 : List S31) (A1 : Option Addr) (c1 : Nat) (l1 : List Int) (w : World) (hr0 : Kd.C k31 w A0 l0.length l0) (hr1 : Kd.C (Kd.int .i32) w A1 l1.length l1) (hn0 : l0.length < 1099511627776) (hn1 : l1.length < 1099511627776)
    (hw0 : ∀ p ∈ l0, wf32 p.f0 = true ∧ wf32 p.f1 = true) (hw1 : ∀ c ∈ l1, wf32 c = true) :
    Calls Try.prog 10 #[.slice A0 l0.length c0, .slice A1 l1.length c1] w fun e w' => ∃ v, e = .returned v ∧ (Kd.int .i32).R 24 w' w.heap.size (fun _ => True) v (l1.map fun c => (mapC l0 c).getD c) ∧ Below w.heap.size w w' := by
  have hmm := @run_makeMap Try.prog
  have hu31 := Try.underlying31
  have HR0 := Aside0.mk hr0
  have HR1 := Aside0.mk hr1
  have HN := Aside0.mk (And.intro hn0 hn1)
  have HW := Aside0.mk (And.intro hw0 hw1)
  clear hr0 hr1 hn0 hn1 hw0 hw1
  go_enter Try.func10, Try.ntmps10
  go_wp2
  have HS0 : Aside0 (MI (l0.take 0) (.map [] : DataW Unit) ∧ (w.alloc (.map #[] 0)).ownsMap Try.prog 24 (plainElem Try.prog 24) w.heap.size 0 (.map [] : DataW Unit) ∧ Below (w.heap.size) w (w.alloc (.map #[] 0))) := ⟨MI_nil, World.ownsMap_made _ _ _ _, (Below.refl _ _).alloc (Nat.le_refl _) _⟩
  generalize w.alloc (.map #[] 0) = w0 at HS0 ⊢
  go_loopw [18] (fun v wr => ∃ (k : Nat) (D : DataW Unit), Aside0 (k ≤ l0.length) ∧ v = .int .i64 k ∧ Aside0 (MI (l0.take k) D ∧ wr.ownsMap Try.prog 24 (plainElem Try.prog 24) w.heap.size k D ∧ Below w.heap.size w wr)) (fun v _ => l0.length - (intOf v).toNat)
  case atStart => exact ⟨0, .map [], ⟨Nat.zero_le _⟩, rfl, HS0⟩
  case round =>
    clear HS0
    obtain ⟨k, D, hk, rfl, HS⟩ := hrel
    rcases Nat.lt_or_eq_of_le hk.out with hkl | heq
    · have hw : wrap64 ((k : Int) + 1) = (k : Int) + 1 := wrapk (Nat.lt_trans hkl HN.out.1)
      obtain ⟨ad, rfl, hx0, hx1⟩ := at_T31 HR0.out (k : Int) (by omega) (by omega)
      replace hx0 := (HS.out.2.2.cell (World.block_lt_of_cell? w _ hx0)).trans hx0
      replace hx1 := (HS.out.2.2.cell (World.block_lt_of_cell? w _ hx1)).trans hx1
      have hmem : rd_T31 l0 k ∈ l0 := by unfold rd_T31; rw [Int.toNat_natCast, List.getD_eq_getElem?_getD, List.getElem?_eq_getElem hkl]; exact List.getElem_mem hkl
      have HT := Aside0.mk (show l0.take (k + 1) = l0.take k ++ [rd_T31 l0 k] from take_snoc l0 z31 hkl)
      have HWF := Aside0.mk (HW.out.1 _ hmem)
      have HLT := Aside0.mk (show k < maxLen by have := HN.out.1; unfold maxLen; omega)
      clear hmem
      simp only [Int.toNat_natCast] at hx0 hx1
      generalize hp : rd_T31 l0 k = p at hx0 hx1 HT HWF
      clear hp
      obtain ⟨x0, x1⟩ := p
      dsimp only at hx0 hx1
      have b0 : decide (k < l0.length) = true := by simpa using hkl
      have b1 : (k : Int) < l0.length := by omega
      have b2 : (0 : Int) ≤ k := by omega
      have HK := Aside0.mk hkl
      have HM := Aside0.mk (HS.out.1.2 x0)
      clear hkl
      cases hm : (mapC (l0.take k) x0).isSome with
      | true =>
        have hhas : Maps.has D (.int .i32 x0) = true := HM.out.1.trans hm
        have HMI := Aside0.mk (MI_old HS.out.1 ⟨x0, x1⟩ hm)
        clear hm
        go_wp2_with (first | ((with_reducible refine gate_dst (N := 7) rfl ?_); refine box_event ?hg (N := 7) ?hd (cs := #[.int .i32 0, .int .i32 0]) (t := 31) ?hr ?_; (case hd => rfl); (case hg => rfl); (case hr => first | (go_simp; done) | (go_simp; rfl)); intro gb hg w9 hbox hb; have HM9 := Aside0.mk (owns_block HS.out.2.1 (hb.block w.heap.size HS.out.2.1.lt)); have HB9 := Aside0.mk (HS.out.2.2.trans (hb.mono HS.out.2.2.size)); have HNE := Aside0.mk (show w.heap.size ≠ gb by have := HS.out.2.1.lt; omega); have HGE := Aside0.mk (show w.heap.size ≤ gb by have := HS.out.2.1.lt; omega); have HBK := Aside0.mk hbox; clear hb hbox hg; have hcz0 : w9.cell? ⟨gb, 0, none⟩ = some (.int .i32 0) := (blk_cell HBK.out 0).trans rfl; have hcz1 : w9.cell? ⟨gb, 1, none⟩ = some (.int .i32 0) := (blk_cell HBK.out 1).trans rfl; have hfz0 := blk_frozen HBK.out 0; have hfz1 := blk_frozen HBK.out 1) | ((with_reducible refine gate_dst (N := 26) rfl ?_); refine wpList_lookup_own_ok_int _ rfl _ _ 60 rfl 24 24 .i32 law24 Try.underlying60 Try.underlying24 (zero24 _) w.heap.size k D rfl (World.ownsMap.setCell (World.ownsMap.setCell HM9.out HNE.out _) HNE.out _) _ _ rfl (keyOf_int_mk Try.underlying24 HWF.out.1) ?_; intro c_ hat_ hwc_; clear hat_ hwc_))
        go_roundw
        case rel => exact ⟨k + 1, D, ⟨HK.out⟩, by first | (rw [hw]; go_num) | go_num, ⟨by rw [HT.out]; exact HMI.out, (World.ownsMap.setCell (World.ownsMap.setCell HM9.out HNE.out _) HNE.out _).mono (Nat.le_succ _), below_set (below_set HB9.out HGE.out) HGE.out⟩⟩
        case measure => first | exact meas_k HK.out hw | exact meas_of HK.out
      | false =>
        have hhas : Maps.has D (.int .i32 x0) = false := HM.out.1.trans hm
        have HMI := Aside0.mk (MI_new HS.out.1 ⟨x0, x1⟩ hm)
        clear hm
        go_wp2_with (first | ((with_reducible refine gate_dst (N := 7) rfl ?_); refine box_event ?hg (N := 7) ?hd (cs := #[.int .i32 0, .int .i32 0]) (t := 31) ?hr ?_; (case hd => rfl); (case hg => rfl); (case hr => first | (go_simp; done) | (go_simp; rfl)); intro gb hg w9 hbox hb; have HM9 := Aside0.mk (owns_block HS.out.2.1 (hb.block w.heap.size HS.out.2.1.lt)); have HB9 := Aside0.mk (HS.out.2.2.trans (hb.mono HS.out.2.2.size)); have HNE := Aside0.mk (show w.heap.size ≠ gb by have := HS.out.2.1.lt; omega); have HGE := Aside0.mk (show w.heap.size ≤ gb by have := HS.out.2.1.lt; omega); have HBK := Aside0.mk hbox; clear hb hbox hg; have hcz0 : w9.cell? ⟨gb, 0, none⟩ = some (.int .i32 0) := (blk_cell HBK.out 0).trans rfl; have hcz1 : w9.cell? ⟨gb, 1, none⟩ = some (.int .i32 0) := (blk_cell HBK.out 1).trans rfl; have hfz0 := blk_frozen HBK.out 0; have hfz1 := blk_frozen HBK.out 1) | ((with_reducible refine gate_dst (N := 26) rfl ?_); refine wpList_lookup_own_ok_int _ rfl _ _ 60 rfl 24 24 .i32 law24 Try.underlying60 Try.underlying24 (zero24 _) w.heap.size k D rfl (World.ownsMap.setCell (World.ownsMap.setCell HM9.out HNE.out _) HNE.out _) _ _ rfl (keyOf_int_mk Try.underlying24 HWF.out.1) ?_; intro c_ hat_ hwc_; clear hat_ hwc_) | (at_mapUpdate; refine wpList_mapUpdate_own _ rfl _ _ _ 60 rfl 24 24 law24 Try.underlying60 (plainElem Try.prog 24) w.heap.size k D rfl (World.ownsMap.setCell (World.ownsMap.setCell HM9.out HNE.out _) HNE.out _) HLT.out _ _ _ rfl rfl (keyOf_int_mk Try.underlying24 HWF.out.1) _ [] (plainElem_int Try.underlying24 HWF.out.2) ?_; intro w10 hown10 hgrow10; have HF := Aside0.mk (And.intro hown10 ((below_set (below_set HB9.out HGE.out) HGE.out).grown hgrow10 (below_set (below_set HB9.out HGE.out) HGE.out).size (fun k_ e_ => by cases e_; exact Nat.le_refl _))); clear hown10 hgrow10))
        go_roundw
        case rel => exact ⟨k + 1, _, ⟨HK.out⟩, by first | (rw [hw]; go_num) | go_num, ⟨by rw [HT.out]; exact HMI.out, HF.out.1, HF.out.2⟩⟩
        case measure => first | exact meas_k HK.out hw | exact meas_of HK.out
    · subst heq
      have HS1 : Aside0 (MI l0 D ∧ wr.ownsMap Try.prog 24 (plainElem Try.prog 24) w.heap.size l0.length D ∧ Below w.heap.size w wr) := ⟨by have := HS.out.1; rwa [List.take_length] at this, HS.out.2⟩
      have HMI := Aside0.mk HS1.out.1
      clear HS
      have HS0 : Aside0 ((Kd.int .i32).R 24 wr (w.heap.size + 1) (fun _ => True) (.slice none 0 0) ((l1.take 0).map fun c => (mapC l0 c).getD c) ∧ wr.ownsMap Try.prog 24 (plainElem Try.prog 24) w.heap.size l0.length D ∧ Below w.heap.size w wr) := ⟨Kd.R_nil _ _ _ _ _, HS1.out.2⟩
      clear HS1
      go_wp2
      go_loopw [10, 39] (fun v0 v wr => ∃ k : Nat, Aside0 (k ≤ l1.length) ∧ v = .int .i64 k ∧ Aside0 ((Kd.int .i32).R 24 wr (w.heap.size + 1) (fun _ => True) v0 ((l1.take k).map fun c => (mapC l0 c).getD c) ∧ wr.ownsMap Try.prog 24 (plainElem Try.prog 24) w.heap.size l0.length D ∧ Below w.heap.size w wr)) (fun _ v _ => l1.length - (intOf v).toNat)
      case atStart => exact ⟨0, ⟨Nat.zero_le _⟩, rfl, HS0⟩
      case round =>
        clear HS0
        obtain ⟨k, hk, rfl, HS⟩ := hrel
        rcases Nat.lt_or_eq_of_le hk.out with hkl | heq
        · have hw : wrap64 ((k : Int) + 1) = (k : Int) + 1 := wrapk (Nat.lt_trans hkl HN.out.2)
          obtain ⟨ad, rfl, _⟩ := HR1.out.2.2 (by omega)
          have hc := int_cell (Kd.C_below HR1.out HS.out.2.2) hkl
          have hmem : l1.getD k 0 ∈ l1 := by rw [List.getD_eq_getElem?_getD, List.getElem?_eq_getElem hkl]; exact List.getElem_mem hkl
          have HT := Aside0.mk (map_snoc (fun c => (mapC l0 c).getD c) l1 hkl)
          have HSL := Aside0.mk (show ((l1.take k).map fun c => (mapC l0 c).getD c).length = k by simp; omega)
          have HWF := Aside0.mk (HW.out.2 _ hmem)
          clear hmem
          generalize l1.getD k 0 = c at hc HT HWF
          generalize (l1.take k).map (fun c => (mapC l0 c).getD c) = sg at HS HT HSL
          have b0 : decide (k < l1.length) = true := by simpa using hkl
          have b1 : (k : Int) < l1.length := by omega
          have b2 : (0 : Int) ≤ k := by omega
          have HK := Aside0.mk hkl
          have HM := Aside0.mk (HMI.out.2 c)
          clear hkl
          obtain ⟨A3, c3, rfl⟩ := Kd.R_slice HS.out.1
          cases hm : mapC l0 c with
          | none =>
            have hhas : Maps.has D (.int .i32 c) = false := by have := HM.out.1; rwa [hm] at this
            have HTX := Aside0.mk (show (l1.take (k + 1)).map (fun c => (mapC l0 c).getD c) = sg ++ [c] from HT.out.trans (by show sg ++ [(mapC l0 c).getD c] = _; rw [hm]; rfl))
            clear hm
            go_wp2_with (first | ((with_reducible refine gate_dst (N := 46) rfl ?_); refine wpList_lookup_own_ok_int _ rfl _ _ 60 rfl 24 24 .i32 law24 Try.underlying60 Try.underlying24 (zero24 _) w.heap.size l0.length D rfl HS.out.2.1 _ _ rfl (keyOf_int_mk Try.underlying24 HWF.out) ?_; intro c_ hat_ hwc_; have HE := Aside0.mk (lit_eq (HM.out.2.symm.trans hat_)); clear hat_ hwc_) | ((with_reducible refine gate_builtin (b := .append) (xs := #[.tmp 51, .tmp 53]) rfl ?_); at_builtin; (refine Kd.R_append (Kd.int .i32) (w0 := wr) (w.heap.size + 1) rfl (.tmp 51) (.tmp 53) 23 24 (.int .i32 0) 4 rfl Try.underlying23 info24 rfl (by decide) (by omega) (.slice A3 sg.length c3) sg c [.int .i32 c] (fun _ => True) (fun _ => False) rfl ?ax rfl (fun _ h_ => h_.elim) (fun _ _ => trivial) HS.out.1 (Below.refl _ _) HS.out.2.1.lt ?aL ?_); (case ax => first | rfl | (go_simp; done) | (go_simp; rfl)); (case aL => have := HSL.out; have := HN.out.2; have := HK.out; omega); intro v4 w4 ho hb hg hat; rw [← HTX.out] at ho; have HF := Aside0.mk (show _ ∧ _ ∧ _ from ⟨ho, World.ownsMap.kept HS.out.2.1 hg (fun e_ => by have := Kd.R_base HS.out.1 _ e_.symm; omega), HS.out.2.2.trans (hb.mono (Nat.le_succ _))⟩); clear ho hb hg hat))
            go_roundw
            case rel => exact ⟨k + 1, ⟨HK.out⟩, by first | (rw [hw]; go_num) | go_num, HF⟩
            case measure => first | exact meas_k HK.out hw | exact meas_of HK.out
          | some y =>
            have hhas : Maps.has D (.int .i32 c) = true := by have := HM.out.1; rwa [hm] at this
            have HTX := Aside0.mk (show (l1.take (k + 1)).map (fun c => (mapC l0 c).getD c) = sg ++ [(mapC l0 c).getD 0] from HT.out.trans (by show sg ++ [(mapC l0 c).getD c] = _; rw [hm]; rfl))
            clear hm
            go_wp2_with (first | ((with_reducible refine gate_dst (N := 46) rfl ?_); refine wpList_lookup_own_ok_int _ rfl _ _ 60 rfl 24 24 .i32 law24 Try.underlying60 Try.underlying24 (zero24 _) w.heap.size l0.length D rfl HS.out.2.1 _ _ rfl (keyOf_int_mk Try.underlying24 HWF.out) ?_; intro c_ hat_ hwc_; have HE := Aside0.mk (lit_eq (HM.out.2.symm.trans hat_)); clear hat_ hwc_) | ((with_reducible refine gate_builtin (b := .append) (xs := #[.tmp 51, .tmp 53]) rfl ?_); at_builtin; (refine Kd.R_append (Kd.int .i32) (w0 := wr) (w.heap.size + 1) rfl (.tmp 51) (.tmp 53) 23 24 (.int .i32 0) 4 rfl Try.underlying23 info24 rfl (by decide) (by omega) (.slice A3 sg.length c3) sg c_ [.int .i32 c_] (fun _ => True) (fun _ => False) rfl ?ax rfl (fun _ h_ => h_.elim) (fun _ _ => trivial) HS.out.1 (Below.refl _ _) HS.out.2.1.lt ?aL ?_); (case ax => first | rfl | (go_simp; done) | (go_simp; rfl)); (case aL => have := HSL.out; have := HN.out.2; have := HK.out; omega); intro v4 w4 ho hb hg hat; rw [HE.out, ← HTX.out] at ho; have HF := Aside0.mk (show _ ∧ _ ∧ _ from ⟨ho, World.ownsMap.kept HS.out.2.1 hg (fun e_ => by have := Kd.R_base HS.out.1 _ e_.symm; omega), HS.out.2.2.trans (hb.mono (Nat.le_succ _))⟩); clear ho hb hg hat))
            go_roundw
            case rel => exact ⟨k + 1, ⟨HK.out⟩, by first | (rw [hw]; go_num) | go_num, HF⟩
            case measure => first | exact meas_k HK.out hw | exact meas_of HK.out
        · subst heq
          go_wp2
          go_ret
          exact ⟨_, rfl, by have := Kd.R_lower HS.out.1 (Nat.le_succ _); rwa [List.take_length] at this, HS.out.2.2⟩
def subst_Map.f (l0 : List S31) (l1 : List Int) : Option (List Int) := if l0.length < 1099511627776 ∧ l1.length < 1099511627776 ∧ (∀ p ∈ l0, wf32 p.f0 = true ∧ wf32 p.f1 = true) ∧ (∀ c ∈ l1, wf32 c = true) then some (l1.map fun c => (mapC l0 c).getD c) else none
theorem subst_Map.calls (A0 : Option Addr) (c0 : Nat) (l0 : List S31) (A1 : Option Addr) (c1 : Nat) (l1 : List Int) (r : List Int) (w : World) (hr0 : Kd.C k31 w A0 l0.length l0) (hc0 : l0.length ≤ c0) (hr1 : Kd.C (Kd.int .i32) w A1 l1.length l1) (hc1 : l1.length ≤ c1) (h : subst_Map.f l0 l1 = some r) :
    Calls Try.prog 10 #[.slice A0 l0.length c0, .slice A1 l1.length c1] w fun e w' => ∃ v0_ : Value, e = .returned (v0_) ∧ Kd.R (Kd.int .i32) 24 w' w.heap.size (fun _ => True) v0_ r ∧ Below w.heap.size w w' := by
  unfold subst_Map.f at h
  split at h
  · rename_i hc
    obtain ⟨h1, h2, h3, h4⟩ := hc
    cases h
    exact map_calls A0 c0 l0 A1 c1 l1 w hr0 hr1 h1 h2 h3 h4
  · cases h
end Go.Proofs.Ytfgccmgfkfhfcaa.PAll
