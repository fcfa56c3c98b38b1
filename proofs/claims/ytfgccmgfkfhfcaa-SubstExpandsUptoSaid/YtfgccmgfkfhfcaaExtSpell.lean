/- subst.Spell over two texts of cells that stand for themselves, as long as each other, none twice in the first. -/
import Derived.Test.YtfgccmgfkfhfcaaExtMap
namespace Go.Proofs.Ytfgccmgfkfhfcaa.PAll
open Go.RowKit Go.Maps Go.Proofs.YtfgccmgfkfhfcaaW.PrintWords Go.Proofs.YtfgccmgfkfhfcaaW.PrintLast Go.Proofs.YtfgccmgfkfhfcaaW.PrintMore
attribute [local go_sem] max2_int
set_option linter.unusedVariables false
set_option linter.unusedSimpArgs false
/-- Pairs of two lists. -/
def pairsL (a b : List Int) (k : Nat) : List S31 := (List.range k).map fun i => ⟨a.getD i 0, b.getD i 0⟩
theorem pairsL_succ (a b : List Int) (k : Nat) : pairsL a b (k + 1) = pairsL a b k ++ [⟨a.getD k 0, b.getD k 0⟩] := by simp [pairsL, List.range_succ]
theorem pairsL_length (a b : List Int) (k : Nat) : (pairsL a b k).length = k := by simp [pairsL]
/-- Each of the first k is there once, others not. -/
def SI (a : List Int) (k : Nat) (D : DataW Unit) : Prop := IsMap D ∧ ∀ c, D.atKey (.int .i32 c) (.lit (.int .i64 0)) = .lit (.int .i64 (if c ∈ a.take k then 1 else 0))
theorem SI_nil (a : List Int) : SI a 0 (.map []) := ⟨isMap_empty, fun c => rfl⟩
theorem SI_new {a : List Int} {k : Nat} {D : DataW Unit} (h : SI a k D) (hk : k < a.length) : SI a (k + 1) (D.put (.int .i32 (a.getD k 0)) (.lit (.int .i64 1))) := by
  refine ⟨h.1.put _ _, fun c => ?_⟩
  rw [take_snoc a 0 hk]
  by_cases hc : a.getD k 0 = c
  · subst hc
    rw [atKey_put_same h.1 (by trivial), if_pos (by simp)]
  · rw [atKey_put_other (lit_ne (Ne.symm hc)), h.2 c]
    have : (c ∈ a.take k ++ [a.getD k 0]) ↔ c ∈ a.take k := by rw [List.mem_append, List.mem_singleton]; exact ⟨fun h => h.resolve_right (Ne.symm hc), .inl⟩
    simp only [this]
theorem zero3 (w : World) : (zeroValue 3).run Try.prog w = .ok (.int .i64 0) w := by kernel_rfl
theorem lit_eq64 {a b : Int} (h : (.lit (.int .i64 a) : DataW Unit) = .lit (.int .i64 b)) : b = a := by injection h with h; injection h with _ h; exact h.symm
theorem put_one {D : DataW Unit} {k c : Int} (h : IsMap D) (hat : (D.put (.int .i32 k) (.lit (.int .i64 1))).atKey (.int .i32 k) (.lit (.int .i64 0)) = .lit (.int .i64 c)) : decide (1 < c) = false := by
  rw [atKey_put_same h (by trivial)] at hat
  rw [lit_eq64 hat]; rfl
set_option maxHeartbeats 2000000 in
set_option maxRecDepth 100000 in
theorem spell_calls (A : Option Addr) (c0 : Nat) (l : List Int) (e : Int) (m1 m2 : Nat) (w : World) (hC : (Kd.int .i32).C w A l.length l) (hn : l.length < 1099511627776)
    (h1 : m1 < l.length ∧ (∀ j, 0 ≤ j → j < m1 → l.getD j 0 ≠ e ∧ l.getD j 0 ≠ 10 ∧ l.getD j 0 ≠ 92) ∧ l.getD m1 0 = e)
    (h2 : m2 < l.length ∧ m1 + 1 ≤ m2 ∧ (∀ j, m1 + 1 ≤ j → j < m2 → l.getD j 0 ≠ e ∧ l.getD j 0 ≠ 10 ∧ l.getD j 0 ≠ 92) ∧ l.getD m2 0 = e)
    (h3 : m2 = m1 + 1 + m1) (h4 : ∀ c ∈ segP l 0 m1, wf32 c = true) (h5 : ∀ k, k < m1 → (segP l 0 m1).getD k 0 ∉ (segP l 0 m1).take k) :
    Calls Try.prog 9 #[.slice A l.length c0, .int .i64 0, .int .i32 e] w fun x w' => ∃ v, x = .returned (.tuple #[v, .int .i64 ((m2 + 1 : Nat) : Int), .int .u16 0, .int .i64 0]) ∧ Kd.R k31 31 w' w.heap.size (fun _ => True) v (pairsL (segP l 0 m1) (segP l (m1 + 1) m2) m1) ∧ Below w.heap.size w w' := by
  have hmm := @run_makeMap Try.prog
  have HC := Aside0.mk hC
  have HA := Aside0.mk (C_block hC)
  have HN := Aside0.mk hn
  have HM1 := Aside0.mk h1
  have HM2 := Aside0.mk h2
  have HL1 := Aside0.mk (segP_length l 0 m1 (by omega) (by omega))
  have HL2 := Aside0.mk (segP_length l (m1 + 1) m2 (by omega) (by omega))
  have HE := Aside0.mk h3
  have HW := Aside0.mk (And.intro h4 h5)
  have hlen : ((segP l 0 m1).length : Int) = ((segP l (m1 + 1) m2).length : Int) := by rw [HL1.out, HL2.out]; omega
  have hlb : (((segP l 0 m1).length : Int) != ((segP l (m1 + 1) m2).length : Int)) = false := by simpa using hlen
  have hlN : (segP l 0 m1).length = (segP l (m1 + 1) m2).length := by omega
  have hlenN := Aside0.mk hlN
  have HN2 := Aside0.mk (show (segP l 0 m1).length < 1099511627776 by have := HL1.out; omega)
  have hld : decide ((segP l 0 m1).length = (segP l (m1 + 1) m2).length) = true := by simpa using hlN
  clear hC hn h1 h2 h3 h4 h5 hlen hlN
  generalize hsa : segP l 0 m1 = sa at *
  generalize hsb : segP l (m1 + 1) m2 = sb at *
  have HSA := Aside0.mk hsa
  have HSB := Aside0.mk hsb
  clear hsa hsb
  have HS0 := Aside0.mk (show (w.alloc (Obj.cells #[Value.slice A l.length c0, Value.int IntKind.i64 0, Value.int IntKind.i32 e] 56)).heap[w.heap.size]? = some (.cells #[.slice A l.length c0, .int .i64 ((0 : Nat) : Int), .int .i32 e] 56 (0, 0)) ∧ Below w.heap.size w (w.alloc (Obj.cells #[Value.slice A l.length c0, Value.int IntKind.i64 0, Value.int IntKind.i32 e] 56)) from ⟨blk_new w _, (Below.refl _ w).alloc (Nat.le_refl _) _⟩)
  have HSZ := Aside0.mk (show w.heap.size + 1 ≤ (w.alloc (Obj.cells #[Value.slice A l.length c0, Value.int IntKind.i64 0, Value.int IntKind.i32 e] 56)).heap.size by simp)
  go_enter Try.func9, Try.ntmps9
  go_wp2_with (first | (go_at_call 20; (refine (text_calls w.heap.size A c0 0 m1 e l _ HS0.out.1 (Kd.C_below HC.out HS0.out.2) (fun h0 ad ha => by have := HA.out h0 ad ha; omega) HN.out HM1.out.1 (Nat.zero_le _) HM1.out.2.1 HM1.out.2.2).mono ?_); rintro x_ w1 ⟨v1, rfl, hr_, hg_, hb_⟩; rw [HSA.out] at hr_; have HS1 := Aside0.mk (show _ ∧ _ ∧ _ ∧ _ from ⟨hb_, hr_, HS0.out.2.grown hg_ HS0.out.2.size (fun k_ e_ => by cases e_; exact Nat.le_refl _), HSZ.out⟩); clear hr_ hg_ hb_ HS0 HSZ; obtain ⟨A1, c1, rfl⟩ := Kd.R_slice HS1.out.2.1) | (go_at_call 20; (refine (text_calls w.heap.size A c0 (m1 + 1) m2 e l _ HS1.out.1 (Kd.C_below HC.out HS1.out.2.2.1) (fun h0 ad ha => by have := HA.out h0 ad ha; omega) HN.out HM2.out.1 HM2.out.2.1 HM2.out.2.2.1 HM2.out.2.2.2).mono ?_); rintro x_ w2 ⟨v2, rfl, hr_, hg_, hb_⟩; rw [HSB.out] at hr_; have HS2 := Aside0.mk (show _ ∧ _ ∧ _ ∧ _ from ⟨hb_, Kd.R_grown (Kd.R_bound HS1.out.2.1) hg_ (fun k_ hk_ e_ => by cases e_; have := hk_.2.1; have := HS1.out.2.2.2; omega), hr_, HS1.out.2.2.1.grown hg_ HS1.out.2.2.1.size (fun k_ e_ => by cases e_; exact Nat.le_refl _)⟩); clear hr_ hg_ hb_ HS1; obtain ⟨A2, c2, rfl⟩ := Kd.R_slice HS2.out.2.2.1))
  have HCA := Aside0.mk (Kd.R_reads' HS2.out.2.1).2.2
  have HCB := Aside0.mk (Kd.R_reads' HS2.out.2.2.1).2.2
  have HS3 : Aside0 (Kd.R k31 31 (w2.alloc (.map #[] 0)) (w2.heap.size + 1) (fun _ => True) (.slice none 0 0) (pairsL sa sb 0) ∧ SI sa 0 (.map [] : DataW Unit) ∧ (w2.alloc (.map #[] 0)).ownsMap Try.prog 24 (plainElem Try.prog 3) w2.heap.size 0 (.map [] : DataW Unit) ∧ Below w2.heap.size w2 (w2.alloc (.map #[] 0))) := ⟨Kd.R_nil _ _ _ _ _, SI_nil _, World.ownsMap_made _ _ _ _, (Below.refl _ _).alloc (Nat.le_refl _) _⟩
  generalize w2.alloc (.map #[] 0) = w3 at HS3 ⊢
  go_loopw [17, 58] (fun v0 v wr => ∃ (k : Nat) (D : DataW Unit), Aside0 (k ≤ sa.length) ∧ v = .int .i64 k ∧ Aside0 (Kd.R k31 31 wr (w2.heap.size + 1) (fun _ => True) v0 (pairsL sa sb k) ∧ SI sa k D ∧ wr.ownsMap Try.prog 24 (plainElem Try.prog 3) w2.heap.size k D ∧ Below w2.heap.size w2 wr)) (fun _ v _ => sa.length - (intOf v).toNat)
  case atStart => exact ⟨0, .map [], ⟨Nat.zero_le _⟩, rfl, HS3⟩
  case round =>
    clear HS3
    obtain ⟨k, D, hk, rfl, HS⟩ := hrel
    rcases Nat.lt_or_eq_of_le hk.out with hkl | heq
    · have hkb : k < sb.length := by have := hlenN.out; omega
      have hw : wrap64 ((k : Int) + 1) = (k : Int) + 1 := wrapk (by have := HN2.out; omega)
      obtain ⟨ad1, rfl, _⟩ := HCA.out.2.2 (by omega)
      obtain ⟨ad2, rfl, _⟩ := HCB.out.2.2 (by omega)
      have hc := int_cell (Kd.C_below HCA.out HS.out.2.2.2) hkl
      have hc2 := int_cell (Kd.C_below HCB.out HS.out.2.2.2) hkb
      have HWF := Aside0.mk (HW.out.1 _ (show sa.getD k 0 ∈ sa by rw [List.getD_eq_getElem?_getD, List.getElem?_eq_getElem hkl]; exact List.getElem_mem hkl))
      have HM : Aside0 (D.atKey (.int .i32 (sa.getD k 0)) (.lit (.int .i64 0)) = .lit (.int .i64 0)) := ⟨by rw [HS.out.2.1.2, if_neg (HW.out.2 k (by have := HL1.out; omega))]⟩
      have HT := Aside0.mk (pairsL_succ sa sb k)
      have HSI := Aside0.mk (SI_new HS.out.2.1 hkl)
      have HSL := Aside0.mk (pairsL_length sa sb k)
      have HLT := Aside0.mk (show k < maxLen by have := HN2.out; unfold maxLen; omega)
      have HCD := Aside0.mk (fun (W : World) (hW : Below w2.heap.size w2 W) => int_cell (Kd.C_below HCB.out hW) hkb)
      generalize pairsL sa sb k = sg at HS HT HSL
      generalize sa.getD k 0 = c at hc HT HWF HM HSI
      generalize sb.getD k 0 = d at hc2 HT HCD
      have b0 : decide (k < sa.length) = true := by simpa using hkl
      have b1 : (k : Int) < sa.length := by omega
      have b2 : (0 : Int) ≤ k := by omega
      have b3 : (k : Int) < sb.length := by omega
      have b4 : decide (k < sb.length) = true := by simpa using hkb
      have HK := Aside0.mk (And.intro hkl hkb)
      clear hkl hkb
      obtain ⟨A3, c3, rfl⟩ := Kd.R_slice HS.out.1
      go_wp2_with (first | ((with_reducible refine gate_dst (N := 65) rfl ?_); refine wpList_lookup_own_int _ rfl _ _ 59 rfl 24 3 .i64 law24 Try.underlying59 Try.underlying3 (zero3 _) w2.heap.size k D rfl HS.out.2.2.1 _ _ rfl (keyOf_int_mk Try.underlying24 HWF.out) ?_; intro c_ hat_ hwc_; have HE0 := Aside0.mk (lit_eq64 (HM.out.symm.trans hat_)); clear hat_ hwc_) | (at_mapUpdate; refine wpList_mapUpdate_own _ rfl _ _ _ 59 rfl 24 3 law24 Try.underlying59 (plainElem Try.prog 3) w2.heap.size k D rfl HS.out.2.2.1 HLT.out _ _ _ rfl rfl (keyOf_int_mk Try.underlying24 HWF.out) _ [] (plainElem_int Try.underlying3 (wrap64_wf _)) ?_; intro w10 hown10 hgrow10; rw [HE0.out, show wrap64 ((0 : Int) + 1) = 1 by unfold wrap64; omega] at hown10; have HF := Aside0.mk (show _ ∧ _ ∧ _ from ⟨Kd.R_grown (Kd.R_bound HS.out.1) hgrow10 (fun k_ hk_ e_ => by cases e_; have := hk_.2.1; omega), hown10, HS.out.2.2.2.grown hgrow10 HS.out.2.2.2.size (fun k_ e_ => by cases e_; exact Nat.le_refl _)⟩); have hc3 := HCD.out w10 HF.out.2.2; clear hown10 hgrow10) | ((with_reducible refine gate_dst (N := 69) rfl ?_); refine wpList_lookup_own_int _ rfl _ _ 59 rfl 24 3 .i64 law24 Try.underlying59 Try.underlying3 (zero3 _) w2.heap.size (k + 1) _ rfl HF.out.2.1 _ _ rfl (keyOf_int_mk Try.underlying24 HWF.out) ?_; intro c_2 hat_ hwc_; have hdc := put_one HS.out.2.1.1 hat_; clear hat_ hwc_) | ((with_reducible refine gate_builtin (b := .append) (xs := #[.tmp 72, .tmp 79]) rfl ?_); at_builtin; (refine Kd.R_append k31 (w0 := w10) (w2.heap.size + 1) rfl (.tmp 72) (.tmp 79) 25 31 (.agg #[.int .i32 0, .int .i32 0]) 8 rfl Try.underlying25 info31 rfl (by decide) (by omega) (.slice A3 sg.length c3) sg (⟨c, d⟩ : S31) [.int .i32 c, .int .i32 d] (fun _ => True) (fun _ => False) rfl ?ax ?aP (fun _ h_ => h_.elim) (fun _ _ => trivial) (Kd.R_mono HF.out.1 (fun _ _ => trivial)) (Below.refl _ _) HF.out.2.1.lt ?aL ?_); (case ax => first | rfl | (go_simp; done) | (go_simp; rfl)); (case aP => exact k31_mkM _ _ _ (⟨c, d⟩ : S31)); (case aL => have := HSL.out; have := HN2.out; omega); intro v4 w4 ho hb hg hat; rw [← HT.out] at ho; have HF4 := Aside0.mk (show _ ∧ _ ∧ _ ∧ _ from ⟨ho, HSI.out, World.ownsMap.kept HF.out.2.1 hg (fun e_ => by have := Kd.R_base HF.out.1 _ e_.symm; omega), HF.out.2.2.trans (hb.mono (Nat.le_succ _))⟩); clear ho hb hg hat))
      go_roundw
      case rel => exact ⟨k + 1, _, ⟨HK.out.1⟩, by first | (rw [hw]; go_num) | go_num, HF4⟩
      case measure => first | exact meas_k HK.out.1 hw | exact meas_of HK.out.1
    · obtain rfl := heq
      have q1 : wr.cell? ⟨w.heap.size, 1, none⟩ = some (.int .i64 ((m2 + 1 : Nat) : Int)) := blk_cell ((HS.out.2.2.2.block w.heap.size (blk_lt HS2.out.1)).trans HS2.out.1) 1
      obtain ⟨A3, c3, rfl⟩ := Kd.R_slice HS.out.1
      have HFIN : Aside0 (Kd.R k31 31 wr w.heap.size (fun _ => True) (.slice A3 (pairsL sa sb sa.length).length c3) (pairsL sa sb sa.length) ∧ Below w.heap.size w wr) := ⟨Kd.R_lower HS.out.1 (Nat.le_succ_of_le HS2.out.2.2.2.size), HS2.out.2.2.2.trans (HS.out.2.2.2.mono HS2.out.2.2.2.size)⟩
      clear HS
      rw [show sa.length = m1 by have := HL1.out; omega] at *
      go_wp2
      go_quiet (fail)
      go_wp2
      refine bodyPost_ret (v := .tuple #[.slice A3 (pairsL sa sb m1).length c3, .int .i64 ((m2 + 1 : Nat) : Int), .int .u16 0, .int .i64 0]) (by simp [results, Try.results9, go_sem]) rfl ⟨_, rfl, Kd.R_drewN HFIN.out.1 _, pw_below_drewN HFIN.out.2 _⟩
/-- Where the sign stands, from k on. -/
def stopN (l : List Int) (e : Int) (k : Nat) : Nat := k + ((l.drop k).takeWhile (fun c => c != e)).length
/-- What spell_calls asks. -/
def SpellOk (l : List Int) (e : Int) (m1 m2 : Nat) : Prop :=
  l.length < 1099511627776 ∧ (m1 < l.length ∧ (∀ j, j < m1 → l.getD j 0 ≠ e ∧ l.getD j 0 ≠ 10 ∧ l.getD j 0 ≠ 92) ∧ l.getD m1 0 = e) ∧
  (m2 < l.length ∧ m1 + 1 ≤ m2 ∧ (∀ j, j < m2 → m1 + 1 ≤ j → l.getD j 0 ≠ e ∧ l.getD j 0 ≠ 10 ∧ l.getD j 0 ≠ 92) ∧ l.getD m2 0 = e) ∧
  m2 = m1 + 1 + m1 ∧ (∀ c ∈ segP l 0 m1, wf32 c = true) ∧ (∀ k, k < m1 → (segP l 0 m1).getD k 0 ∉ (segP l 0 m1).take k)
instance (l : List Int) (e : Int) (m1 m2 : Nat) : Decidable (SpellOk l e m1 m2) := by unfold SpellOk; infer_instance
def subst_Spell.f (l : List Int) (a1 e : Int) : Option (List S31 × Int × Int × Int) :=
  if a1 = 0 ∧ SpellOk l e (stopN l e 0) (stopN l e (stopN l e 0 + 1)) then
    some (pairsL (segP l 0 (stopN l e 0)) (segP l (stopN l e 0 + 1) (stopN l e (stopN l e 0 + 1))) (stopN l e 0), ((stopN l e (stopN l e 0 + 1) + 1 : Nat) : Int), 0, 0)
  else none
theorem subst_Spell.calls (A0 : Option Addr) (c0 : Nat) (l0 : List Int) (a1 a2 : Int) (r1 : List S31) (r2 r3 r4 : Int) (w : World) (hr0 : Kd.C (Kd.int .i32) w A0 l0.length l0) (hc0 : l0.length ≤ c0) (h : subst_Spell.f l0 a1 a2 = some (r1, r2, r3, r4)) :
    Calls Try.prog 9 #[.slice A0 l0.length c0, .int .i64 a1, .int .i32 a2] w fun e w' => ∃ v0_ : Value, e = .returned (.tuple #[v0_, .int .i64 r2, .int .u16 r3, .int .i64 r4]) ∧ Kd.R k31 31 w' w.heap.size (fun _ => True) v0_ r1 ∧ Below w.heap.size w w' := by
  unfold subst_Spell.f at h
  split at h
  · rename_i hc
    obtain ⟨rfl, h0, h1, h2, h3, h4, h5⟩ := hc
    obtain ⟨rfl, rfl, rfl, rfl⟩ : _ = r1 ∧ _ = r2 ∧ (0 : Int) = r3 ∧ (0 : Int) = r4 := by simpa using h
    exact spell_calls A0 c0 l0 a2 _ _ w hr0 h0 ⟨h1.1, fun j _ hj => h1.2.1 j hj, h1.2.2⟩ ⟨h2.1, h2.2.1, fun j h hj => h2.2.2.1 j hj h, h2.2.2.2⟩ h3 h4 h5
  · cases h
theorem spell_ok {l : List Int} {e : Int} {m1 m2 : Nat} (h1 : stopN l e 0 = m1) (h2 : stopN l e (m1 + 1) = m2) (h : SpellOk l e m1 m2) : subst_Spell.f l 0 e = some (pairsL (segP l 0 m1) (segP l (m1 + 1) m2) m1, ((m2 + 1 : Nat) : Int), 0, 0) := by
  unfold subst_Spell.f
  rw [h1, h2, if_pos ⟨rfl, h⟩]
end Go.Proofs.Ytfgccmgfkfhfcaa.PAll
