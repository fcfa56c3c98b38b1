/- subst.Parse comes to what parseN says. -/
import Derived.Test.YtfgccmgfkfhfcaaExtPut
namespace Go.Proofs.Ytfgccmgfkfhfcaa.PAll
open Go.RowKit Go.Proofs.YtfgccmgfkfhfcaaW.PrintWords Go.Proofs.YtfgccmgfkfhfcaaW.PrintLast Go.Proofs.YtfgccmgfkfhfcaaW.PrintMore
attribute [local go_sem] max2_int
set_option linter.unusedVariables false
set_option linter.unusedSimpArgs false
/-- From place k on, ps being read; what isn't asked of it is none. -/
def parseN : Nat → List Int → Int → Int → Nat → List S49 → Option (List S49 × Int × Int × Int)
  | 0, _, _, _, _, _ => none
  | f + 1, l, e, gr, k, ps =>
    if ps.length < 1099511627776 ∧ (lastT ps).f1.length < 1099511627776 then
      (if (stepR l e k).err ≠ 0 then some ([], 0, (stepR l e k).err, (stepR l e k).place)
      else if (stepR l e k).more = false then some (ps, ((stepR l e k).k : Int), 0, 0)
      else if (stepR l e k).esc = true ∧ (stepR l e k).c ≠ e ∧ 0 ≤ wrap32 ((stepR l e k).c - 48) ∧ wrap32 ((stepR l e k).c - 48) ≤ 9 then
        (if gr < wrap32 ((stepR l e k).c - 48) then none else parseN f l e gr (stepR l e k).k (ps ++ [⟨2, [], wrap32 ((stepR l e k).c - 48)⟩]))
      else if (stepR l e k).esc = true ∧ (stepR l e k).c = 110 ∧ e ≠ 110 then none
      else if (stepR l e k).esc = false ∧ (stepR l e k).c = 38 then parseN f l e gr (stepR l e k).k (ps ++ [⟨2, [], 0⟩])
      else parseN f l e gr (stepR l e k).k (putP ps (stepR l e k).c))
    else none
set_option maxHeartbeats 4000000 in
set_option maxRecDepth 100000 in
theorem parse_calls (F : Nat) (A : Option Addr) (c0 : Nat) (l : List Int) (e gr : Int) (r0 : List S49) (r1 r2 r3 : Int) (w : World) (hC : (Kd.int .i32).C w A l.length l) (hn : l.length < 1099511627776) (h : parseN F l e gr 0 [] = some (r0, r1, r2, r3)) :
    Calls Try.prog 14 #[.slice A l.length c0, .int .i64 0, .int .i32 e, .int .i64 gr] w fun x w' => ∃ v, x = .returned (.tuple #[v, .int .i64 r1, .int .u16 r2, .int .i64 r3]) ∧ Kd.S k49 49 w' w.heap.size (fun _ => True) v r0 ∧ Below w.heap.size w w' := by
  have HC := Aside0.mk hC
  have HA := Aside0.mk (C_block hC)
  have HN := Aside0.mk hn
  have HP := Aside0.mk h
  clear hC hn h
  go_enter Try.func14, Try.ntmps14
  go_wp2
  have HS0 := Aside0.mk (show (w.alloc (Obj.cells #[Value.slice A l.length c0, Value.int IntKind.i64 0, Value.int IntKind.i32 e] 56)).heap[w.heap.size]? = some (.cells #[.slice A l.length c0, .int .i64 ((0 : Nat) : Int), .int .i32 e] 56 (0, 0)) ∧ Kd.S k49 49 (w.alloc (Obj.cells #[Value.slice A l.length c0, Value.int IntKind.i64 0, Value.int IntKind.i32 e] 56)) (w.heap.size + 1) (fun _ => True) (.slice none 0 0) [] ∧ Below w.heap.size w (w.alloc (Obj.cells #[Value.slice A l.length c0, Value.int IntKind.i64 0, Value.int IntKind.i32 e] 56)) from ⟨blk_new w _, Kd.S_nil _ _ _ _ _, (Below.refl _ w).alloc (Nat.le_refl _) _⟩)
  generalize w.alloc (Obj.cells #[Value.slice A l.length c0, Value.int IntKind.i64 0, Value.int IntKind.i32 e] 56) = w0 at HS0 ⊢
  go_loopg [13] F (fun kq v wr => ∃ (k : Nat) (ps : List S49), Aside0 (parseN kq l e gr k ps = some (r0, r1, r2, r3)) ∧ Aside0 (kq ≤ F) ∧ Aside0 (wr.heap[w.heap.size]? = some (.cells #[.slice A l.length c0, .int .i64 (k : Int), .int .i32 e] 56 (0, 0)) ∧ Kd.S k49 49 wr (w.heap.size + 1) (fun _ => True) v ps ∧ Below w.heap.size w wr))
  case atStart => exact ⟨0, [], HP, ⟨Nat.le_refl _⟩, HS0⟩
  case round =>
    clear HP HS0
    obtain ⟨k, ps, HQ, HK, HS⟩ := hrel
    cases gk with
    | zero => exact absurd HQ.out (by simp [parseN])
    | succ k1 =>
      have H := HQ.out
      clear HQ
      simp only [parseN] at H
      by_cases hbnd : ps.length < 1099511627776 ∧ (lastT ps).f1.length < 1099511627776
      · rw [if_pos hbnd] at H
        have HBD := Aside0.mk hbnd
        clear hbnd
        have hx := next_calls w.heap.size A c0 k e l wr HS.out.1 (Kd.C_below HC.out HS.out.2.2) (fun h0 ad ha => by have := HA.out h0 ad ha; omega) HN.out
        generalize stepR l e k = s at H hx
        obtain ⟨c, esc, pl, more, err, place, k2⟩ := s
        dsimp only at H hx
        have HX := Aside0.mk hx
        have HSZ := Aside0.mk HS.out.2.2.size
        obtain ⟨A3, c3, rfl⟩ := Kd.S_slice HS.out.2.1
        clear hx
        by_cases herr : err = 0
        · subst herr
          rw [if_neg (by simp)] at H
          cases more with
          | false =>
            rw [if_pos rfl] at H
            obtain ⟨rfl, rfl, rfl, rfl⟩ : ps = r0 ∧ (k2 : Int) = r1 ∧ (0 : Int) = r2 ∧ (0 : Int) = r3 := by simpa using H
            clear H
            go_wp2_with (first | (go_at_call 22; (refine HX.out.mono ?_); rintro x_ w1 ⟨rfl, hg_, hb_⟩; have HS1 := Aside0.mk (And.intro hb_ (And.intro (Kd.S_mono (ok' := fun _ => True) (Kd.S_grown (Kd.S_bound HS.out.2.1) hg_ (fun k_ hk_ e_ => by cases e_; have := hk_.2.1; omega)) (fun _ _ => trivial)) (HS.out.2.2.grown hg_ HS.out.2.2.size (fun k_ e_ => by cases e_; exact Nat.le_refl _)))); have HSB := Aside0.mk (fun (o_ : Obj) => show w.heap.size + 1 ≤ (w1.alloc o_).heap.size from Nat.le_trans (blk_lt hb_) (by simp)); have HSC := Aside0.mk (fun (o_ : Obj) => blk_alloc hb_ o_); clear hg_ hb_ HX HS))
            have q1 : (w1.alloc (Obj.cells #[Value.int .i32 c, Value.bool esc, Value.int .i64 pl] 64)).cell? ⟨w.heap.size, 1, none⟩ = some (.int .i64 k2) := blk_cell (HSC.out _) 1
            have HF := Aside0.mk (And.intro (Kd.S_alloc HS1.out.2.1 (Obj.cells #[Value.int .i32 c, Value.bool esc, Value.int .i64 pl] 64)) (HS1.out.2.2.alloc HS1.out.2.2.size (Obj.cells #[Value.int .i32 c, Value.bool esc, Value.int .i64 pl] 64)))
            generalize w1.alloc (Obj.cells #[Value.int .i32 c, Value.bool esc, Value.int .i64 pl] 64) = w2 at q1 HF ⊢
            go_quiet (fail)
            go_wp2
            refine bodyPost_ret (v := .tuple #[.slice A3 ps.length c3, .int .i64 k2, .int .u16 0, .int .i64 0]) (by simp [results, Try.results14, go_sem]) rfl ⟨.slice A3 ps.length c3, rfl, Kd.S_drewN (Kd.S_lower HF.out.1 (Nat.le_succ _)) _, pw_below_drewN HF.out.2 _⟩
          | true =>
            rw [if_neg (by decide)] at H
            cases esc with
            | false =>
              rw [if_neg (by simp), if_neg (by simp)] at H
              by_cases hc : c = 38
              · rw [if_pos ⟨rfl, hc⟩] at H
                have hcb : (c == 38) = true := by simpa using hc
                have HQ := Aside0.mk H
                clear H hc
                go_wp2_with (first | (go_at_call 22; (refine HX.out.mono ?_); rintro x_ w1 ⟨rfl, hg_, hb_⟩; have HS1 := Aside0.mk (And.intro hb_ (And.intro (Kd.S_mono (ok' := fun _ => True) (Kd.S_grown (Kd.S_bound HS.out.2.1) hg_ (fun k_ hk_ e_ => by cases e_; have := hk_.2.1; omega)) (fun _ _ => trivial)) (HS.out.2.2.grown hg_ HS.out.2.2.size (fun k_ e_ => by cases e_; exact Nat.le_refl _)))); have HSB := Aside0.mk (fun (o_ : Obj) => show w.heap.size + 1 ≤ (w1.alloc o_).heap.size from Nat.le_trans (blk_lt hb_) (by simp)); have HSC := Aside0.mk (fun (o_ : Obj) => blk_alloc hb_ o_); clear hg_ hb_ HX HS) | ((with_reducible refine gate_builtin (b := .append) (xs := #[.tmp 109, .tmp 111]) rfl ?_); at_builtin; (refine Kd.S_append k49 (w0 := w1.alloc (Obj.cells #[Value.int .i32 c, Value.bool false, Value.int .i64 pl] 64)) (w.heap.size + 1) rfl (.tmp 109) (.tmp 111) 38 49 (.agg #[.int .u8 0, .slice none 0 0, .int .i64 0]) 40 rfl Try.underlying38 info49 rfl (by decide) (by omega) (.slice A3 ps.length c3) ps (⟨2, [], 0⟩ : S49) [.int .u8 2, .slice none 0 0, .int .i64 (0)] (fun _ => True) (fun _ => False) rfl ?ax ?aP (fun _ h_ => h_.elim) (fun _ _ => trivial) ?aO (Below.refl _ _) (HSB.out _) ?aL ?_); (case ax => first | rfl | (go_simp; done) | (go_simp; rfl)); (case aP => exact k49_mkM _ _ _ (⟨2, [], 0⟩ : S49) (Kd.R_nil _ _ _ _ _)); (case aO => exact Kd.S_mono (Kd.S_alloc HS1.out.2.1 _) (fun _ _ => ⟨trivial, not_false⟩)); (case aL => have := HBD.out.1; omega); intro v2 w2 hs_ hb_ hg_ hat_; have HF := Aside0.mk (show _ ∧ _ ∧ _ from ⟨(hb_.block w.heap.size (Nat.lt_succ_self _)).trans (HSC.out _), hs_, ((HS1.out.2.2.alloc HS1.out.2.2.size _).trans (hb_.mono (Nat.le_succ _)))⟩); clear hs_ hb_ hg_ hat_))
                go_roundg k1
                case measure => have := HK.out; omega
                case rel => exact ⟨k2, ps ++ [⟨2, [], 0⟩], HQ, ⟨by have := HK.out; omega⟩, HF⟩
              · rw [if_neg (fun h_ => hc h_.2)] at H
                have hcb : (c == 38) = false := by simpa using hc
                have HQ := Aside0.mk H
                clear H hc
                go_wp2_with (first | (go_at_call 22; (refine HX.out.mono ?_); rintro x_ w1 ⟨rfl, hg_, hb_⟩; have HS1 := Aside0.mk (And.intro hb_ (And.intro (Kd.S_mono (ok' := fun _ => True) (Kd.S_grown (Kd.S_bound HS.out.2.1) hg_ (fun k_ hk_ e_ => by cases e_; have := hk_.2.1; omega)) (fun _ _ => trivial)) (HS.out.2.2.grown hg_ HS.out.2.2.size (fun k_ e_ => by cases e_; exact Nat.le_refl _)))); have HSB := Aside0.mk (fun (o_ : Obj) => show w.heap.size + 1 ≤ (w1.alloc o_).heap.size from Nat.le_trans (blk_lt hb_) (by simp)); have HSC := Aside0.mk (fun (o_ : Obj) => blk_alloc hb_ o_); clear hg_ hb_ HX HS) | (go_at_call 23; (refine (put_calls (w.heap.size + 1) A3 c3 ps c _ (Kd.S_alloc HS1.out.2.1 _) (HSB.out _) HBD.out.1 HBD.out.2).mono ?_); rintro x_ w2 ⟨v2, rfl, hs_, hb_⟩; have HF := Aside0.mk (show _ ∧ _ ∧ _ from ⟨(hb_.block w.heap.size (Nat.lt_succ_self _)).trans (HSC.out _), hs_, ((HS1.out.2.2.alloc HS1.out.2.2.size _).trans (hb_.mono (Nat.le_succ _)))⟩); clear hs_ hb_))
                go_roundg k1
                case measure => have := HK.out; omega
                case rel => exact ⟨k2, putP ps c, HQ, ⟨by have := HK.out; omega⟩, HF⟩
            | true =>
              by_cases hce : c = e
              · rw [if_neg (fun h_ => h_.2.1 hce), if_neg (fun h_ => h_.2.2 (hce ▸ h_.2.1)), if_neg (by simp)] at H
                have hceb : (c != e) = false := by simpa using hce
                have hc110 : (c == 110) = true ∧ (e != 110) = false ∨ (c == 110) = false := by by_cases h_ : c = 110; exact .inl ⟨by simpa using h_, by have := hce ▸ h_; simpa using this⟩; exact .inr (by simpa using h_)
                rcases hc110 with ⟨ha, hb⟩ | ha
                · skip
                  have HQ := Aside0.mk H
                  clear H hce
                  go_wp2_with (first | (go_at_call 22; (refine HX.out.mono ?_); rintro x_ w1 ⟨rfl, hg_, hb_⟩; have HS1 := Aside0.mk (And.intro hb_ (And.intro (Kd.S_mono (ok' := fun _ => True) (Kd.S_grown (Kd.S_bound HS.out.2.1) hg_ (fun k_ hk_ e_ => by cases e_; have := hk_.2.1; omega)) (fun _ _ => trivial)) (HS.out.2.2.grown hg_ HS.out.2.2.size (fun k_ e_ => by cases e_; exact Nat.le_refl _)))); have HSB := Aside0.mk (fun (o_ : Obj) => show w.heap.size + 1 ≤ (w1.alloc o_).heap.size from Nat.le_trans (blk_lt hb_) (by simp)); have HSC := Aside0.mk (fun (o_ : Obj) => blk_alloc hb_ o_); clear hg_ hb_ HX HS) | (go_at_call 23; (refine (put_calls (w.heap.size + 1) A3 c3 ps c _ (Kd.S_alloc HS1.out.2.1 _) (HSB.out _) HBD.out.1 HBD.out.2).mono ?_); rintro x_ w2 ⟨v2, rfl, hs_, hb_⟩; have HF := Aside0.mk (show _ ∧ _ ∧ _ from ⟨(hb_.block w.heap.size (Nat.lt_succ_self _)).trans (HSC.out _), hs_, ((HS1.out.2.2.alloc HS1.out.2.2.size _).trans (hb_.mono (Nat.le_succ _)))⟩); clear hs_ hb_))
                  go_roundg k1
                  case measure => have := HK.out; omega
                  case rel => exact ⟨k2, putP ps c, HQ, ⟨by have := HK.out; omega⟩, HF⟩
                · skip
                  have HQ := Aside0.mk H
                  clear H hce
                  go_wp2_with (first | (go_at_call 22; (refine HX.out.mono ?_); rintro x_ w1 ⟨rfl, hg_, hb_⟩; have HS1 := Aside0.mk (And.intro hb_ (And.intro (Kd.S_mono (ok' := fun _ => True) (Kd.S_grown (Kd.S_bound HS.out.2.1) hg_ (fun k_ hk_ e_ => by cases e_; have := hk_.2.1; omega)) (fun _ _ => trivial)) (HS.out.2.2.grown hg_ HS.out.2.2.size (fun k_ e_ => by cases e_; exact Nat.le_refl _)))); have HSB := Aside0.mk (fun (o_ : Obj) => show w.heap.size + 1 ≤ (w1.alloc o_).heap.size from Nat.le_trans (blk_lt hb_) (by simp)); have HSC := Aside0.mk (fun (o_ : Obj) => blk_alloc hb_ o_); clear hg_ hb_ HX HS) | (go_at_call 23; (refine (put_calls (w.heap.size + 1) A3 c3 ps c _ (Kd.S_alloc HS1.out.2.1 _) (HSB.out _) HBD.out.1 HBD.out.2).mono ?_); rintro x_ w2 ⟨v2, rfl, hs_, hb_⟩; have HF := Aside0.mk (show _ ∧ _ ∧ _ from ⟨(hb_.block w.heap.size (Nat.lt_succ_self _)).trans (HSC.out _), hs_, ((HS1.out.2.2.alloc HS1.out.2.2.size _).trans (hb_.mono (Nat.le_succ _)))⟩); clear hs_ hb_))
                  go_roundg k1
                  case measure => have := HK.out; omega
                  case rel => exact ⟨k2, putP ps c, HQ, ⟨by have := HK.out; omega⟩, HF⟩
              · have hceb : (c != e) = true := by simpa using hce
                obtain ⟨m, hm⟩ : ∃ m, m = wrap32 (c - 48) := ⟨_, rfl⟩
                have hm3 : wrap64 m = m := by rw [hm]; unfold wrap64 wrap32; omega
                rw [← hm] at H
                by_cases hd0 : 0 ≤ m
                · by_cases hd9 : m ≤ 9
                  · rw [if_pos ⟨rfl, hce, hd0, hd9⟩] at H
                    by_cases hgr : gr < m
                    · rw [if_pos hgr] at H
                      exact absurd H (by simp)
                    · rw [if_neg hgr] at H
                      have d0 : decide (0 ≤ m) = true := by simpa using hd0
                      have d9 : decide (m ≤ 9) = true := by simpa using hd9
                      have dg : decide (gr < m) = false := by simpa using hgr
                      have hm2 := hm.symm
                      have HQ := Aside0.mk H
                      clear H hce hd0 hd9 hgr hm
                      go_wp2_with (first | (go_at_call 22; (refine HX.out.mono ?_); rintro x_ w1 ⟨rfl, hg_, hb_⟩; have HS1 := Aside0.mk (And.intro hb_ (And.intro (Kd.S_mono (ok' := fun _ => True) (Kd.S_grown (Kd.S_bound HS.out.2.1) hg_ (fun k_ hk_ e_ => by cases e_; have := hk_.2.1; omega)) (fun _ _ => trivial)) (HS.out.2.2.grown hg_ HS.out.2.2.size (fun k_ e_ => by cases e_; exact Nat.le_refl _)))); have HSB := Aside0.mk (fun (o_ : Obj) => show w.heap.size + 1 ≤ (w1.alloc o_).heap.size from Nat.le_trans (blk_lt hb_) (by simp)); have HSC := Aside0.mk (fun (o_ : Obj) => blk_alloc hb_ o_); clear hg_ hb_ HX HS) | ((with_reducible refine gate_builtin (b := .append) (xs := #[.tmp 81, .tmp 84]) rfl ?_); at_builtin; (refine Kd.S_append k49 (w0 := w1.alloc (Obj.cells #[Value.int .i32 c, Value.bool true, Value.int .i64 pl] 64)) (w.heap.size + 1) rfl (.tmp 81) (.tmp 84) 38 49 (.agg #[.int .u8 0, .slice none 0 0, .int .i64 0]) 40 rfl Try.underlying38 info49 rfl (by decide) (by omega) (.slice A3 ps.length c3) ps (⟨2, [], m⟩ : S49) [.int .u8 2, .slice none 0 0, .int .i64 (m)] (fun _ => True) (fun _ => False) rfl ?ax ?aP (fun _ h_ => h_.elim) (fun _ _ => trivial) ?aO (Below.refl _ _) (HSB.out _) ?aL ?_); (case ax => first | rfl | (go_simp; done) | (go_simp; rfl)); (case aP => exact k49_mkM _ _ _ (⟨2, [], m⟩ : S49) (Kd.R_nil _ _ _ _ _)); (case aO => exact Kd.S_mono (Kd.S_alloc HS1.out.2.1 _) (fun _ _ => ⟨trivial, not_false⟩)); (case aL => have := HBD.out.1; omega); intro v2 w2 hs_ hb_ hg_ hat_; have HF := Aside0.mk (show _ ∧ _ ∧ _ from ⟨(hb_.block w.heap.size (Nat.lt_succ_self _)).trans (HSC.out _), hs_, ((HS1.out.2.2.alloc HS1.out.2.2.size _).trans (hb_.mono (Nat.le_succ _)))⟩); clear hs_ hb_ hg_ hat_))
                      go_roundg k1
                      case measure => have := HK.out; omega
                      case rel => exact ⟨k2, ps ++ [⟨2, [], m⟩], HQ, ⟨by have := HK.out; omega⟩, HF⟩
                  · have d0 : decide (0 ≤ m) = true := by simpa using hd0
                    rw [if_neg (fun h_ => hd9 h_.2.2.2)] at H
                    by_cases h110 : c = 110
                    · rw [if_pos ⟨rfl, h110, fun h_ => hce (h110.trans h_.symm)⟩] at H
                      exact absurd H (by simp)
                    · rw [if_neg (fun h_ => h110 h_.2.1), if_neg (by simp)] at H
                      have hcb : (c == 110) = false := by simpa using h110
                      have d9 : decide (m ≤ 9) = false := by simpa using hd9
                      have hm2 := hm.symm
                      have HQ := Aside0.mk H
                      clear H hce h110 hm
                      go_wp2_with (first | (go_at_call 22; (refine HX.out.mono ?_); rintro x_ w1 ⟨rfl, hg_, hb_⟩; have HS1 := Aside0.mk (And.intro hb_ (And.intro (Kd.S_mono (ok' := fun _ => True) (Kd.S_grown (Kd.S_bound HS.out.2.1) hg_ (fun k_ hk_ e_ => by cases e_; have := hk_.2.1; omega)) (fun _ _ => trivial)) (HS.out.2.2.grown hg_ HS.out.2.2.size (fun k_ e_ => by cases e_; exact Nat.le_refl _)))); have HSB := Aside0.mk (fun (o_ : Obj) => show w.heap.size + 1 ≤ (w1.alloc o_).heap.size from Nat.le_trans (blk_lt hb_) (by simp)); have HSC := Aside0.mk (fun (o_ : Obj) => blk_alloc hb_ o_); clear hg_ hb_ HX HS) | (go_at_call 23; (refine (put_calls (w.heap.size + 1) A3 c3 ps c _ (Kd.S_alloc HS1.out.2.1 _) (HSB.out _) HBD.out.1 HBD.out.2).mono ?_); rintro x_ w2 ⟨v2, rfl, hs_, hb_⟩; have HF := Aside0.mk (show _ ∧ _ ∧ _ from ⟨(hb_.block w.heap.size (Nat.lt_succ_self _)).trans (HSC.out _), hs_, ((HS1.out.2.2.alloc HS1.out.2.2.size _).trans (hb_.mono (Nat.le_succ _)))⟩); clear hs_ hb_))
                      go_roundg k1
                      case measure => have := HK.out; omega
                      case rel => exact ⟨k2, putP ps c, HQ, ⟨by have := HK.out; omega⟩, HF⟩
                · skip
                  rw [if_neg (fun h_ => hd0 h_.2.2.1)] at H
                  by_cases h110 : c = 110
                  · rw [if_pos ⟨rfl, h110, fun h_ => hce (h110.trans h_.symm)⟩] at H
                    exact absurd H (by simp)
                  · rw [if_neg (fun h_ => h110 h_.2.1), if_neg (by simp)] at H
                    have hcb : (c == 110) = false := by simpa using h110
                    have d0 : decide (0 ≤ m) = false := by simpa using hd0
                    have hm2 := hm.symm
                    have HQ := Aside0.mk H
                    clear H hce h110 hm
                    go_wp2_with (first | (go_at_call 22; (refine HX.out.mono ?_); rintro x_ w1 ⟨rfl, hg_, hb_⟩; have HS1 := Aside0.mk (And.intro hb_ (And.intro (Kd.S_mono (ok' := fun _ => True) (Kd.S_grown (Kd.S_bound HS.out.2.1) hg_ (fun k_ hk_ e_ => by cases e_; have := hk_.2.1; omega)) (fun _ _ => trivial)) (HS.out.2.2.grown hg_ HS.out.2.2.size (fun k_ e_ => by cases e_; exact Nat.le_refl _)))); have HSB := Aside0.mk (fun (o_ : Obj) => show w.heap.size + 1 ≤ (w1.alloc o_).heap.size from Nat.le_trans (blk_lt hb_) (by simp)); have HSC := Aside0.mk (fun (o_ : Obj) => blk_alloc hb_ o_); clear hg_ hb_ HX HS) | (go_at_call 23; (refine (put_calls (w.heap.size + 1) A3 c3 ps c _ (Kd.S_alloc HS1.out.2.1 _) (HSB.out _) HBD.out.1 HBD.out.2).mono ?_); rintro x_ w2 ⟨v2, rfl, hs_, hb_⟩; have HF := Aside0.mk (show _ ∧ _ ∧ _ from ⟨(hb_.block w.heap.size (Nat.lt_succ_self _)).trans (HSC.out _), hs_, ((HS1.out.2.2.alloc HS1.out.2.2.size _).trans (hb_.mono (Nat.le_succ _)))⟩); clear hs_ hb_))
                    go_roundg k1
                    case measure => have := HK.out; omega
                    case rel => exact ⟨k2, putP ps c, HQ, ⟨by have := HK.out; omega⟩, HF⟩
        · rw [if_pos herr] at H
          obtain ⟨rfl, rfl, rfl, rfl⟩ : [] = r0 ∧ (0 : Int) = r1 ∧ err = r2 ∧ place = r3 := by simpa using H
          have herrb : (err != 0) = true := by simpa using herr
          clear H herr
          go_wp2_with (first | (go_at_call 22; (refine HX.out.mono ?_); rintro x_ w1 ⟨rfl, hg_, hb_⟩; have HS1 := Aside0.mk (And.intro hb_ (And.intro (Kd.S_mono (ok' := fun _ => True) (Kd.S_grown (Kd.S_bound HS.out.2.1) hg_ (fun k_ hk_ e_ => by cases e_; have := hk_.2.1; omega)) (fun _ _ => trivial)) (HS.out.2.2.grown hg_ HS.out.2.2.size (fun k_ e_ => by cases e_; exact Nat.le_refl _)))); have HSB := Aside0.mk (fun (o_ : Obj) => show w.heap.size + 1 ≤ (w1.alloc o_).heap.size from Nat.le_trans (blk_lt hb_) (by simp)); have HSC := Aside0.mk (fun (o_ : Obj) => blk_alloc hb_ o_); clear hg_ hb_ HX HS))
          refine bodyPost_ret (v := .tuple #[.slice none 0 0, .int .i64 0, .int .u16 err, .int .i64 place]) (by simp [results, Try.results14, go_sem]) rfl ⟨.slice none 0 0, rfl, Kd.S_nil _ _ _ _ _, HS1.out.2.2.alloc HS1.out.2.2.size _⟩
      · rw [if_neg hbnd] at H
        exact absurd H (by simp)
/-- What Parse comes to, from the begin on. -/
def subst_Parse.f (l0 : List Int) (a1 a2 a3 : Int) : Option (List S49 × Int × Int × Int) := if a1 = 0 ∧ l0.length < 1099511627776 then parseN (l0.length + 2) l0 a2 a3 0 [] else none
theorem subst_Parse.calls (A0 : Option Addr) (c0 : Nat) (l0 : List Int) (a1 a2 a3 : Int) (r1 : List S49) (r2 r3 r4 : Int) (w : World) (hr0 : Kd.C (Kd.int .i32) w A0 l0.length l0) (hc0 : l0.length ≤ c0) (h : subst_Parse.f l0 a1 a2 a3 = some (r1, r2, r3, r4)) :
    Calls Try.prog 14 #[.slice A0 l0.length c0, .int .i64 a1, .int .i32 a2, .int .i64 a3] w fun e w' => ∃ v0_ : Value, e = .returned (.tuple #[v0_, .int .i64 r2, .int .u16 r3, .int .i64 r4]) ∧ Kd.S k49 49 w' w.heap.size (fun _ => True) v0_ r1 ∧ Below w.heap.size w w' := by
  unfold subst_Parse.f at h
  split at h
  · rename_i hc
    obtain ⟨rfl, hn⟩ := hc
    exact parse_calls _ A0 c0 l0 a2 a3 r1 r2 r3 r4 w hr0 hn h
  · cases h
end Go.Proofs.Ytfgccmgfkfhfcaa.PAll
