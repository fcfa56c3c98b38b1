/- LinesTwo, walked by hand. -/
import Derived.Test.YtgfanljjldcdfaaPureB
import Derived.Test.YtgfanljjldcdfaaExtStruct
namespace Go.Proofs.Ytgfanljjldcdfaa.PAll
open Go.RowKit Go.Proofs.YtgfanljjldcdfaaW.PrintWords Go.Proofs.YtgfanljjldcdfaaW.PrintLast Go.Proofs.YtgfanljjldcdfaaW.PrintMore Go.Proofs.Ytgfanljjldcdfaa.Pure
set_option linter.unusedVariables false
set_option linter.unusedSimpArgs false
theorem below_none {W W' : World} (hg : W.grownBy W' none) : Below W.heap.size W W' := (Below.refl _ _).grown hg (Nat.le_refl _) (fun k e => by cases e)
theorem split_two (x y : List Int) : splitP ((x ++ [10]) ++ y) = splitP (x ++ [10]) ++ splitP y := by
  induction x with
  | nil => simp [splitP]
  | cons c r ih =>
    simp only [List.cons_append, splitP]
    split
    · rw [ih]; rfl
    · rw [ih]
      cases h : splitP (r ++ [10]) with
      | nil => exact absurd (splitP_nil_iff.1 h) (by simp)
      | cons z t => simp
theorem meas_nat {n j : Nat} (h : j < n) : n - (intOf (.int .i64 ((j + 1 : Nat) : Int))).toNat < n - (intOf (.int .i64 (j : Int))).toNat := by
  show n - (((j + 1 : Nat) : Int)).toNat < n - (j : Int).toNat
  omega
set_option maxHeartbeats 2000000 in
set_option maxRecDepth 100000 in
theorem two_calls (A0 A1 : Option Addr) (c0 c1 : Nat) (z0 z1 xs ys : List Int) (w : World) (h0 : Kd.C (Kd.int .u8) w A0 z0.length z0) (hc0 : z0.length ≤ c0) (h1 : Kd.C (Kd.int .u8) w A1 z1.length z1) (hc1 : z1.length ≤ c1)
    (k : Nat) (hk0 : redactorlaw01_Cells.f k z0 = some xs) (hk1 : redactorlaw01_Cells.f k z1 = some ys) (hx : xs.length ≤ 60) (hy : ys.length ≤ 60) (hkn : redactorlaw05_known.f k = some true) (hsm : ∀ y ∈ splitP ((xs ++ [10]) ++ ys), redactorref01_Same.f k y.f0 y.f0 = some true) :
    Calls Try.prog 4 #[.slice A0 z0.length c0, .slice A1 z1.length c1] w fun e w' => e = .returned (.bool true) ∧ Below w.heap.size w w' := by
  have H0 := Aside0.mk h0
  have H1 := Aside0.mk h1
  have HK := Aside0.mk (And.intro hk0 (And.intro hk1 (And.intro hkn hsm)))
  have HC := Aside0.mk (And.intro hc0 hc1)
  have HL := Aside0.mk (And.intro hx hy)
  obtain ⟨x2, hx2⟩ : ∃ x2, x2 = xs ++ [10] := ⟨_, rfl⟩
  obtain ⟨bb, hbb⟩ : ∃ bb, bb = x2 ++ ys := ⟨_, rfl⟩
  have NX := Aside0.mk hx2
  have NB := Aside0.mk hbb
  clear hx2 hbb h0 h1 hk0 hk1 hkn hsm hc0 hc1 hx hy
  go_enter Try.func4, Try.ntmps4
  go_wp2_with fail
  refine (redactorlaw01_Cells.calls k _ _ z0 xs _ H0.out HC.out.1 HK.out.1).mono ?_
  rintro e w1 ⟨v1, rfl, hR, hB⟩
  have HR1 := Aside0.mk hR
  have HB1 := Aside0.mk hB
  obtain ⟨Ax1, cx1, rfl⟩ := Kd.R_slice hR
  clear hR hB
  go_wp2_with (first | ((with_reducible refine gate_builtin (b := .append) (xs := #[.tmp 15, .tmp 16]) rfl ?_); at_builtin; (refine Kd.R_append (Kd.int .i32) (w0 := w) w.heap.size rfl (.tmp 15) (.tmp 16) 23 25 (.int .i32 0) 4 rfl Try.underlying23 info25 rfl (by decide) (by omega) (.slice Ax1 xs.length cx1) xs 10 [.int .i32 10] (fun _ => True) (fun _ => False) rfl rfl ?aP (fun _ hk => hk.elim) ?aF ?aO ?aB ?aS ?aL ?_); (case aP => exact rfl); (case aF => exact fun _ _ => trivial); (case aO => exact HR1.out); (case aB => exact HB1.out); (case aS => exact HB1.out.size); (case aL => have := HL.out; omega); intro v2 w2 ho hb hg hat; rw [← NX.out] at ho; have HR2 := Aside0.mk ho; have HB2 := Aside0.mk hb; (obtain ⟨Ax, cx, e2⟩ := Kd.R_slice ho); subst e2; clear ho hb hg hat HR1 HB1))
  refine (redactorlaw01_Cells.calls k _ _ z1 ys _ (Kd.C_below H1.out HB2.out) HC.out.2 HK.out.2.1).mono ?_
  rintro e w3 ⟨v3, rfl, hR, hB⟩
  have HX3 := Aside0.mk (Kd.R_below HR2.out hB)
  have HY3 := Aside0.mk hR
  have HB3 := Aside0.mk (HB2.out.trans (hB.mono HB2.out.size))
  obtain ⟨Ay, cy, rfl⟩ := Kd.R_slice hR
  clear hR hB HR2 HB2
  go_wp2_with (first | ((with_reducible refine gate_builtin (b := .append) (xs := #[.tmp 20, .tmp 21]) rfl ?_); at_builtin; (refine Kd.R_append_rows (Kd.int .i32) (w0 := w3) w3.heap.size rfl (.tmp 20) (.tmp 21) 23 25 (.int .i32 0) 4 rfl Try.underlying23 info25 rfl (by decide) (by omega) (.slice none 0 0) ([] : List Int) x2 _ _ _ (fun _ => True) (fun _ => False) rfl rfl (Kd.R_nil _ _ _ _ _) (Kd.R_reads' HX3.out).2.2 (fun _ _ h => h) (fun _ h => h.elim) (fun _ _ => trivial) (Below.refl _ _) (Nat.le_refl _) ?aL ?_); (case aL => have := HL.out; have := congrArg List.length NX.out; simp at this; simp; omega); intro v4 w4 ho hb hg hat; rw [List.nil_append] at ho; have HR4 := Aside0.mk ho; have HB4 := Aside0.mk hb; (obtain ⟨A4, c4, e4⟩ := Kd.R_slice ho); subst e4; clear ho hb hg hat) | ((with_reducible refine gate_builtin (b := .append) (xs := #[.tmp 23, .tmp 24]) rfl ?_); at_builtin; (refine Kd.R_append_rows (Kd.int .i32) (w0 := w3) w3.heap.size rfl (.tmp 23) (.tmp 24) 23 25 (.int .i32 0) 4 rfl Try.underlying23 info25 rfl (by decide) (by omega) (.slice A4 x2.length c4) x2 ys _ _ _ (fun _ => True) (fun _ => False) rfl rfl HR4.out (Kd.R_reads' (Kd.R_below HY3.out HB4.out)).2.2 (fun _ _ h => h) (fun _ h => h.elim) (fun _ _ => trivial) HB4.out HB4.out.size ?aL ?_); (case aL => have := HL.out; have := congrArg List.length NX.out; simp at this; omega); intro v5 w5 ho hb hg hat; rw [← NB.out] at ho; have HR5 := Aside0.mk ho; have HB5 := Aside0.mk hb; (obtain ⟨A5, c5, e5⟩ := Kd.R_slice ho); subst e5; clear ho hb hg hat HR4 HB4))
  have HX5 := Aside0.mk (Kd.R_below HX3.out HB5.out)
  have HY5 := Aside0.mk (Kd.R_below HY3.out HB5.out)
  have HW5 := Aside0.mk (HB3.out.trans (HB5.out.mono HB3.out.size))
  clear HX3 HY3 HB3 HB5
  have hfb : lines_Split.f bb = some (splitP bb) := by unfold lines_Split.f; rw [if_pos (by have := HL.out; have h1 := congrArg List.length NX.out; have h2 := congrArg List.length NB.out; simp at h1 h2; omega)]
  have hfx : lines_Split.f x2 = some (splitP x2) := by unfold lines_Split.f; rw [if_pos (by have := HL.out; have h1 := congrArg List.length NX.out; simp at h1; omega)]
  have hfy : lines_Split.f ys = some (splitP ys) := by unfold lines_Split.f; rw [if_pos (by have := HL.out; omega)]
  have HF := Aside0.mk (And.intro hfb (And.intro hfx hfy))
  have HN := Aside0.mk (show splitP bb = splitP x2 ++ splitP ys by rw [NB.out, NX.out]; exact split_two xs ys)
  have HZ := Aside0.mk (show (splitP bb).length ≤ 1000 by have := splitP_length bb; have := HL.out; have h1 := congrArg List.length NX.out; have h2 := congrArg List.length NB.out; simp at h1 h2; omega)
  have HS := Aside0.mk (show ∀ y ∈ splitP bb, redactorref01_Same.f k y.f0 y.f0 = some true by rw [NB.out, NX.out]; exact HK.out.2.2.2)
  clear hfb hfx hfy
  generalize splitP bb = lb at HF HN HZ HS
  generalize splitP x2 = la at HF HN
  generalize splitP ys = lc at HF HN
  refine (lines_Split.calls _ _ bb lb _ (Kd.R_reads' HR5.out).2.2 (Kd.R_reads' HR5.out).2.1 HF.out.1).mono ?_
  rintro e w6 ⟨v6, rfl, hS, hB⟩
  have HX6 := Aside0.mk (Kd.R_below HX5.out hB)
  have HY6 := Aside0.mk (Kd.R_below HY5.out hB)
  have HW6 := Aside0.mk (HW5.out.trans (hB.mono HW5.out.size))
  have HL6 := Aside0.mk hS
  obtain ⟨A6, c6, rfl⟩ := Kd.R_slice (Kd.S_R hS)
  clear hS hB HX5 HY5 HW5 HR5
  go_wp2_with fail
  refine (lines_Split.calls _ _ x2 la _ (Kd.R_reads' HX6.out).2.2 (Kd.R_reads' HX6.out).2.1 HF.out.2.1).mono ?_
  rintro e w7 ⟨v7, rfl, hS, hB⟩
  have HY7 := Aside0.mk (Kd.R_below HY6.out hB)
  have HL7 := Aside0.mk (Kd.S_below HL6.out hB)
  have HW7 := Aside0.mk (HW6.out.trans (hB.mono HW6.out.size))
  have HA7 := Aside0.mk hS
  obtain ⟨A7, c7, rfl⟩ := Kd.R_slice (Kd.S_R hS)
  clear hS hB HX6 HY6 HW6 HL6
  go_wp2_with fail
  refine (lines_Split.calls _ _ ys lc _ (Kd.R_reads' HY7.out).2.2 (Kd.R_reads' HY7.out).2.1 HF.out.2.2).mono ?_
  rintro e w8 ⟨v8, rfl, hS, hB⟩
  obtain ⟨A8, c8, rfl⟩ := Kd.R_slice (Kd.S_R hS)
  have HL8 := Aside0.mk (Kd.R_reads' (Kd.S_R (Kd.S_below HL7.out hB)))
  have HA8 := Aside0.mk (Kd.R_reads' (Kd.S_R (Kd.S_below HA7.out hB)))
  have HC8 := Aside0.mk (Kd.R_reads' (Kd.S_R hS))
  have HW8 := Aside0.mk (HW7.out.trans (hB.mono HW7.out.size))
  clear hS hB HY7 HW7 HL7 HA7
  have hln : lb.length = la.length + lc.length := by rw [HN.out]; simp
  have hw1 : wrap64 ((la.length : Int) + (lc.length : Int)) = (la.length : Int) + (lc.length : Int) := by have := HZ.out; unfold wrap64; omega
  have hne : ((lb.length : Int) != (la.length : Int) + (lc.length : Int)) = false := by rw [hln]; simp
  have hne2 : (lb.length != la.length + lc.length) = false := by rw [hln]; simp
  have HLN := Aside0.mk hln
  clear hln
  go_wp2
  go_loopw [11] (fun v wr => ∃ j : Nat, Aside0 (j ≤ lb.length) ∧ v = .int .i64 j ∧ Aside0 (Below w8.heap.size w8 wr)) (fun v _ => lb.length - (intOf v).toNat)
  case atStart => exact ⟨0, ⟨Nat.zero_le _⟩, rfl, ⟨Below.refl _ _⟩⟩
  case round =>
    clear hw1 hne hne2
    obtain ⟨j, hj, rfl, HBr⟩ := hrel
    rcases Nat.lt_or_eq_of_le hj.out with hlt | heq
    · have hw : wrap64 ((j : Int) + 1) = ((j + 1 : Nat) : Int) := by rw [w64 (by have := HZ.out; omega) (by have := HZ.out; omega)]; rfl
      obtain ⟨y, hy⟩ : ∃ y, y = rd_T32 lb (j : Int) := ⟨_, rfl⟩
      obtain ⟨adl, Al, cl, rfl, hl0, hl1, hl2, hl3⟩ := at_T32 HL8.out.2.2 (j : Int) (by omega) (by omega)
      rw [← hy] at hl0 hl1 hl2 hl3
      simp only [Int.toNat_natCast] at hl0 hl1
      have HQl := Aside0.mk (And.intro hl0 (And.intro hl1 (And.intro hl2 hl3)))
      have hye : y = lb[j] := by rw [hy, t32_at lb j hlt]
      have HSy := Aside0.mk (HS.out y (hye ▸ List.getElem_mem hlt))
      have b0 : decide (j < lb.length) = true := by simpa using hlt
      have b1 : (j : Int) < lb.length := by omega
      have HJ := Aside0.mk hlt
      by_cases hla : j < la.length
      · have hya : rd_T32 la (j : Int) = y := by
          rw [hye, t32_at la j hla]
          have h1 := HN.out
          subst h1
          rw [List.getElem_append_left hla]
        obtain ⟨ada, Aw, cw, rfl, ha0, ha1, ha2, ha3⟩ := at_T32 HA8.out.2.2 (j : Int) (by omega) (by omega)
        rw [hya] at ha0 ha1 ha2 ha3
        simp only [Int.toNat_natCast] at ha0 ha1
        have HQ := Aside0.mk (And.intro trivial (And.intro ha0 (And.intro ha1 (And.intro ha2 ha3))))
        have b2 : decide (j < la.length) = true := by simpa using hla
        have b3 : (j : Int) < la.length := by omega
        have g0 : ((y.f1) != (y.f1)) = false := by simp
        clear hl0 hl1 hl2 hl3 ha0 ha1 ha2 ha3 hya hye hy hlt hla hj
        go_wp2_with (first | ((with_reducible refine gate_dst (N := 12) rfl ?_); refine box_event ?hg (N := 12) ?hd (cs := #[.slice none 0 0, .bool false]) (t := 32) ?hr ?_; (case hd => rfl); (case hg => rfl); (case hr => first | (go_simp; done) | (go_simp; rfl)); intro gb hgb w9 hbox hb9; have HG := Aside0.mk (show w8.heap.size ≤ gb by have := HBr.out.size; omega); have HO9 := Aside0.mk hbox; have HB9 := Aside0.mk (HBr.out.trans (hb9.mono HBr.out.size)); clear hgb hbox hb9) | ((with_reducible refine gate_store (t := 32) (p := 12) (v := .tmp 46) rfl ?_); (refine store_whole rfl rfl 32 (.tmp 12) (.tmp 46) rfl gb [.slice none 0 0, .bool false] ?hx ?hy _ HO9.out size32 rfl (by simp [Value.oneCell']) ?_); (case hx => rfl); (case hy => first | rfl | (go_simp; done) | (go_simp; rfl)); intro w10 hb3 hg3; have HO10 := Aside0.mk hb3; have HB10 := Aside0.mk (HB9.out.grown hg3 HB9.out.size (fun k_ e_ => by cases e_; exact HG.out)); have qa0 := cell_later HB10.out HQ.out.2.1; have qa1 := cell_later HB10.out HQ.out.2.2.1; clear hb3 hg3 HO9 HB9) | ((with_reducible refine gate_store (t := 32) (p := 12) (v := .tmp 54) rfl ?_); (refine store_whole rfl rfl 32 (.tmp 12) (.tmp 54) rfl gb [.slice Aw y.f0.length cw, .bool y.f1] ?hx ?hy _ HO10.out size32 rfl (by simp [Value.oneCell']) ?_); (case hx => rfl); (case hy => first | rfl | (go_simp; done) | (go_simp; rfl)); intro w11 hb3 hg3; have HO11 := Aside0.mk hb3; have HB11 := Aside0.mk (HB10.out.grown hg3 HB10.out.size (fun k_ e_ => by cases e_; exact HG.out)); clear qa0 qa1; have ql0 := cell_later HB11.out HQl.out.1; have ql1 := cell_later HB11.out HQl.out.2.1; have qb0 : w11.cell? ⟨gb, 0, none⟩ = some (.slice Aw y.f0.length cw) := blk_cell HO11.out 0; have qb1 : w11.cell? ⟨gb, 1, none⟩ = some (.bool y.f1) := blk_cell HO11.out 1; have HQ1 := Aside0.mk (Kd.C_below HQl.out.2.2.2 HB11.out); have HQ2 := Aside0.mk (Kd.C_below HQ.out.2.2.2.2 HB11.out); clear hb3 hg3 HO10 HB10))
        go_quiet ((go_at_call 12; (with_reducible refine (redactorref01_Same.calls k _ _ y.f0 _ _ y.f0 true _ ?side1 ?side2 ?side3 ?side4 HSy.out).mono ?_); (case side1 => repeat (first | exact HQ1.out | (with_reducible refine Kd.C_drewN ?_ _) | (with_reducible refine Kd.C_drew ?_))); (case side2 => exact HQl.out.2.2.1); (case side3 => repeat (first | exact HQ2.out | (with_reducible refine Kd.C_drewN ?_ _) | (with_reducible refine Kd.C_drew ?_))); (case side4 => exact HQ.out.2.2.2.1); rintro e w' ⟨rfl, ⟨nd, rfl⟩⟩; (try first | exact ⟨rfl, _, World.drewN_drewN _ _ _⟩ | exact ⟨rfl, _, Eq.trans (World.drewN_drewN _ _ _) (congrArg (World.drewN _) (Nat.add_assoc _ _ _))⟩)))
        go_wp2
        go_roundw
        case rel => exact ⟨j + 1, ⟨HJ.out⟩, by first | (rw [hw]; done) | rfl, ⟨pw_below_drewN HB11.out nq⟩⟩
        case measure => first | (rw [hw]; exact meas_nat HJ.out) | exact meas_nat HJ.out
      · have hya : rd_T32 lc ((j - la.length : Nat) : Int) = y := by
          rw [hye, t32_at lc (j - la.length) (by have := HLN.out; omega)]
          have h1 := HN.out
          subst h1
          rw [List.getElem_append_right (by omega)]
        obtain ⟨ada, Aw, cw, rfl, ha0, ha1, ha2, ha3⟩ := at_T32 HC8.out.2.2 ((j - la.length : Nat) : Int) (by omega) (by have := HLN.out; omega)
        rw [hya] at ha0 ha1 ha2 ha3
        simp only [Int.toNat_natCast] at ha0 ha1
        have HQ := Aside0.mk (And.intro trivial (And.intro ha0 (And.intro ha1 (And.intro ha2 ha3))))
        have b2 : decide (j < la.length) = false := by simpa using hla
        have b3 : (la.length : Int) ≤ j := by omega
        have b4 : (j : Int) - la.length < lc.length := by have := HLN.out; omega
        have b5 : (j : Int) < 1001 := by have := HZ.out; omega
        have b6 : wrap64 ((j : Int) - la.length) = ((j - la.length : Nat) : Int) := by rw [w64 (by omega) (by omega)]; omega
        have b7 : j - la.length < lc.length := by have := HLN.out; omega
        have g0 : ((y.f1) != (y.f1)) = false := by simp
        clear hl0 hl1 hl2 hl3 ha0 ha1 ha2 ha3 hya hye hy hlt hla hj
        go_wp2_with (first | ((with_reducible refine gate_dst (N := 12) rfl ?_); refine box_event ?hg (N := 12) ?hd (cs := #[.slice none 0 0, .bool false]) (t := 32) ?hr ?_; (case hd => rfl); (case hg => rfl); (case hr => first | (go_simp; done) | (go_simp; rfl)); intro gb hgb w9 hbox hb9; have HG := Aside0.mk (show w8.heap.size ≤ gb by have := HBr.out.size; omega); have HO9 := Aside0.mk hbox; have HB9 := Aside0.mk (HBr.out.trans (hb9.mono HBr.out.size)); clear hgb hbox hb9) | ((with_reducible refine gate_store (t := 32) (p := 12) (v := .tmp 46) rfl ?_); (refine store_whole rfl rfl 32 (.tmp 12) (.tmp 46) rfl gb [.slice none 0 0, .bool false] ?hx ?hy _ HO9.out size32 rfl (by simp [Value.oneCell']) ?_); (case hx => rfl); (case hy => first | rfl | (go_simp; done) | (go_simp; rfl)); intro w10 hb3 hg3; have HO10 := Aside0.mk hb3; have HB10 := Aside0.mk (HB9.out.grown hg3 HB9.out.size (fun k_ e_ => by cases e_; exact HG.out)); have qa0 := cell_later HB10.out HQ.out.2.1; have qa1 := cell_later HB10.out HQ.out.2.2.1; clear hb3 hg3 HO9 HB9) | ((with_reducible refine gate_store (t := 32) (p := 12) (v := .tmp 61) rfl ?_); (refine store_whole rfl rfl 32 (.tmp 12) (.tmp 61) rfl gb [.slice Aw y.f0.length cw, .bool y.f1] ?hx ?hy _ HO10.out size32 rfl (by simp [Value.oneCell']) ?_); (case hx => rfl); (case hy => first | rfl | (go_simp; done) | (go_simp; rfl)); intro w11 hb3 hg3; have HO11 := Aside0.mk hb3; have HB11 := Aside0.mk (HB10.out.grown hg3 HB10.out.size (fun k_ e_ => by cases e_; exact HG.out)); clear qa0 qa1; have ql0 := cell_later HB11.out HQl.out.1; have ql1 := cell_later HB11.out HQl.out.2.1; have qb0 : w11.cell? ⟨gb, 0, none⟩ = some (.slice Aw y.f0.length cw) := blk_cell HO11.out 0; have qb1 : w11.cell? ⟨gb, 1, none⟩ = some (.bool y.f1) := blk_cell HO11.out 1; have HQ1 := Aside0.mk (Kd.C_below HQl.out.2.2.2 HB11.out); have HQ2 := Aside0.mk (Kd.C_below HQ.out.2.2.2.2 HB11.out); clear hb3 hg3 HO10 HB10))
        go_quiet ((go_at_call 12; (with_reducible refine (redactorref01_Same.calls k _ _ y.f0 _ _ y.f0 true _ ?side1 ?side2 ?side3 ?side4 HSy.out).mono ?_); (case side1 => repeat (first | exact HQ1.out | (with_reducible refine Kd.C_drewN ?_ _) | (with_reducible refine Kd.C_drew ?_))); (case side2 => exact HQl.out.2.2.1); (case side3 => repeat (first | exact HQ2.out | (with_reducible refine Kd.C_drewN ?_ _) | (with_reducible refine Kd.C_drew ?_))); (case side4 => exact HQ.out.2.2.2.1); rintro e w' ⟨rfl, ⟨nd, rfl⟩⟩; (try first | exact ⟨rfl, _, World.drewN_drewN _ _ _⟩ | exact ⟨rfl, _, Eq.trans (World.drewN_drewN _ _ _) (congrArg (World.drewN _) (Nat.add_assoc _ _ _))⟩)))
        go_wp2
        go_roundw
        case rel => exact ⟨j + 1, ⟨HJ.out⟩, by first | (rw [hw]; done) | rfl, ⟨pw_below_drewN HB11.out nq⟩⟩
        case measure => first | (rw [hw]; exact meas_nat HJ.out) | exact meas_nat HJ.out
    · obtain rfl : j = lb.length := heq
      go_wp2_with fail
      refine (redactorlaw05_known.calls k true _ HK.out.2.2.1).mono ?_
      rintro e w' ⟨rfl, hb⟩
      have HBF := Aside0.mk ((HW8.out.trans (HBr.out.mono HW8.out.size)).trans (hb.mono (Nat.le_trans HW8.out.size HBr.out.size)))
      clear hb
      go_wp2
      go_ret
      exact ⟨rfl, HBF.out⟩
theorem all_ev {α : Type} {g : Nat → α → Option Bool} : ∀ (l : List α), (∀ y ∈ l, Ev (fun k => g k y) true) → ∃ K, ∀ k, K ≤ k → ∀ y ∈ l, g k y = some true
  | [], _ => ⟨0, fun _ _ y hy => by cases hy⟩
  | x :: t, h => by
    obtain ⟨K1, h1⟩ := h x List.mem_cons_self
    obtain ⟨K2, h2⟩ := all_ev t (fun y hy => h y (List.mem_cons_of_mem _ hy))
    refine ⟨max K1 K2, fun k hk y hy => ?_⟩
    rcases List.mem_cons.1 hy with rfl | hy
    · exact h1 k (by omega)
    · exact h2 k (by omega) y hy
theorem line_le (l : List Int) : ∀ y ∈ splitP l, y.f0.length ≤ l.length := by
  intro y hy
  obtain ⟨a, b, e⟩ := List.append_of_mem hy
  have h := congrArg List.length (join_split l)
  rw [e, joinP_append] at h
  simp [joinP] at h
  omega
theorem two_walk (a0 : Option Addr) (len0 cap0 : Nat) (z0 : List Int) (a1 : Option Addr) (len1 cap1 : Nat) (z1 : List Int) (w : World) (w0 : (a0 = none ∧ len0 = 0 ∧ cap0 = 0 ∧ z0 = []) ∨ ∃ x, a0 = some x ∧ len0 ≤ cap0 ∧ cap0 ≤ maxLen ∧ z0.length = cap0 ∧ (∀ i, i < z0.length → w.cell? (x.add i) = some (.int .u8 (z0.getD i 0))) ∧ ∀ n ∈ z0, (Lit.int .u8 n).wf = true) (y0 : len0 * 1 ≤ 140737488351232)
    (w1 : (a1 = none ∧ len1 = 0 ∧ cap1 = 0 ∧ z1 = []) ∨ ∃ x, a1 = some x ∧ len1 ≤ cap1 ∧ cap1 ≤ maxLen ∧ z1.length = cap1 ∧ (∀ i, i < z1.length → w.cell? (x.add i) = some (.int .u8 (z1.getD i 0))) ∧ ∀ n ∈ z1, (Lit.int .u8 n).wf = true) (y1 : len1 * 1 ≤ 140737488351232) :
    Calls Try.prog 4 #[.slice a0 len0 cap0, .slice a1 len1 cap1] w fun e w' => e = .returned (.bool true) ∧ Below w.heap.size w w' := by
  obtain ⟨l0, rfl, hr0, hm0, hw0, hc0⟩ := ReadsInt.ofRowC w0
  obtain ⟨l1, rfl, hr1, hm1, hw1, hc1⟩ := ReadsInt.ofRowC w1
  obtain ⟨xs, ⟨K1, hx⟩, hx60⟩ := cells_ev l0 y0 hw0
  obtain ⟨ys, ⟨K2, hy⟩, hy60⟩ := cells_ev l1 y1 hw1
  obtain ⟨K3, hk⟩ := known_ev
  obtain ⟨K4, hs⟩ := all_ev (g := fun k (y : S32) => redactorref01_Same.f k y.f0 y.f0) (splitP ((xs ++ [10]) ++ ys)) (fun y hy => same_ev _ (by have := line_le _ y hy; simp at this; omega))
  exact two_calls _ _ _ _ l0 l1 xs ys w (Kd.C_of_reads (d := (0 : Int)) (h1 := fun _ => rfl) hr0) hc0 (Kd.C_of_reads (d := (0 : Int)) (h1 := fun _ => rfl) hr1) hc1 (max (max K1 K2) (max K3 K4)) (hx _ (by omega)) (hy _ (by omega)) hx60 hy60 (hk _ (by omega)) (hs _ (by omega))
end Go.Proofs.Ytgfanljjldcdfaa.PAll
