/- flat.Resolve comes to what resolveP says. (Written by wip/flat/gen_resolve.py.) -/
import Derived.Test.YtgennlcbmepchaaExtEnds
namespace Go.Proofs.Ytgennlcbmepchaa.PAll
open Go.RowKit Go.Maps Go.WideMaps Go.Proofs.YtgennlcbmepchaaW.PrintWords Go.Proofs.YtgennlcbmepchaaW.PrintLast Go.Proofs.YtgennlcbmepchaaW.PrintMore

/-- The commands of which k lead nowhere yet. -/
def cleared (l0 : List S32) (k : Nat) : RSt := ⟨(l0.take k).map (setJ · 0) ++ l0.drop k, [], []⟩
/-- Where noting begins. -/
def st0 (l0 : List S32) : RSt := ⟨l0.map (setJ · 0), [], []⟩
theorem cleared_all (l0 : List S32) : cleared l0 l0.length = st0 l0 := by simp [cleared, st0]
theorem cleared_len (l0 : List S32) (k : Nat) : (cleared l0 k).xs.length = l0.length := by simp [cleared]; omega
theorem cleared_at {l0 : List S32} {k : Nat} (h : k < l0.length) : at32 (cleared l0 k).xs k = at32 l0 k := by
  unfold at32 cleared
  simp only [List.getD_eq_getElem?_getD]
  rw [List.getElem?_append_right (by simp; omega)]
  simp [Nat.min_eq_left (Nat.le_of_lt h)]
theorem cleared_succ {l0 : List S32} {k : Nat} (h : k < l0.length) : (cleared l0 (k + 1)).xs = (cleared l0 k).xs.set k (setJ (at32 (cleared l0 k).xs k) 0) := by
  rw [cleared_at h]
  unfold cleared
  simp only
  rw [List.set_append_right _ _ (by simp; omega)]
  have e1 : k - ((l0.take k).map (setJ · 0)).length = 0 := by simp; omega
  have e2 : l0.drop k = at32 l0 k :: l0.drop (k + 1) := by
    rw [List.drop_eq_getElem_cons h]
    simp [at32, List.getD_eq_getElem?_getD, h]
  have e3 : l0.take (k + 1) = l0.take k ++ [at32 l0 k] := by
    rw [List.take_succ_eq_append_getElem h]
    simp [at32, List.getD_eq_getElem?_getD, h]
  rw [e1, e2, e3]
  simp
section
variable {P0 : Nat → Prop} {w0 w1 w : World} {gb g bm n cap : Nat} {st : RSt}
theorem Rel.c0 (h : Rel P0 w0 w1 gb g bm n cap st w) : w.cell? ⟨g, 0, none⟩ = some (.slice (some ⟨gb, 0, none⟩) n cap) := by
  obtain ⟨rows, hM, _⟩ := h.ex
  exact hM.c0
theorem Rel.spot (h : Rel P0 w0 w1 gb g bm n cap st w) {j : Nat} (hj : j < n) : (w.cell? ⟨gb, j * 28 + 26, none⟩).isSome = true ∧ w.frozen? ⟨gb, j * 28 + 26, none⟩ = false := by
  obtain ⟨rows, hM, hR⟩ := h.ex
  obtain ⟨c, hc, _⟩ := hM.elem hj
  exact ⟨hM.cell26 hc, hM.fzb _⟩
theorem Rel.clear {l0 : List S32} {k : Nat} (h : Rel P0 w0 w1 gb g bm n cap (cleared l0 k) w) (hk : k < l0.length) : Rel P0 w0 w1 gb g bm n cap (cleared l0 (k + 1)) (w.setCell ⟨gb, k * 28 + 26, none⟩ (.int .i64 0)) := by
  obtain ⟨rows, hM, hR⟩ := h.ex
  have hl := cleared_len l0 k
  have hkn : k < n := by have := h.len; omega
  have hx := at32_eq (xs := (cleared l0 k).xs) (i := k) (by omega)
  obtain ⟨c, hc, _⟩ := hM.elem hkn
  refine ⟨⟨_, hM.put hc (.int .i64 0) rfl, ?_⟩, by rw [cleared_len]; have := h.len; omega, h.ops, ?_⟩
  · rw [cleared_succ hk]; exact hR.put hx hc 0
  · rw [cleared_succ hk]; exact lab_set h.lab (by omega)
/-- Behind the copy of a command that came in. -/
theorem copied (h : Rel P0 w0 w1 gb g bm n cap st w) {w2 w3 : World} {gc : Nat} {c : List Value} (hgc : gc = w.heap.size) (hb2 : Below w.heap.size w w2) (hb3 : w3.heap[gc]? = some (.cells c.toArray 32 (0, 0))) (hg3 : w2.grownBy w3 (some gc)) {v : Value} (h27 : c[27]? = some v) :
    Aside0 (Rel P0 w0 w1 gb g bm n cap st w3) ∧ w3.cell? ⟨gc, 27, none⟩ = some v :=
  ⟨⟨h.step (hb2.grown hg3 hb2.size (fun k hk => by cases hk; omega))⟩, by simp [World.cell?, hb3, h27]⟩
end
theorem cell_below5 {w w' : World} (hb : Below w.heap.size w w') {a : Addr} {v : Value} (h : w.cell? a = some v) : w'.cell? a = some v := (hb.cell (World.block_lt_of_cell? w _ h)).trans h
theorem add_add (ad : Addr) (x y : Nat) : (ad.add x).add y = ad.add (x + y) := by
  unfold Addr.add
  by_cases hx : x = 0
  · subst hx; simp
  · by_cases hy : y = 0
    · subst hy; simp [hx]
    · simp [hx, hy, Nat.add_assoc]
/-- A command that came in. -/
theorem old_elem {P0_ : Nat → Prop} {ad : Addr} {c0 : Nat} {l0 : List S32} {w W : World} (hs0 : Kd.V k32 32 w w.heap.size (fun k_ => P0_ k_) (.slice (some ad) l0.length c0) l0) (hB : Below w.heap.size w W) {k : Nat} (hk : k < l0.length) :
    ∃ c : List Value, c.length = 28 ∧ (∀ v ∈ c, v.oneCell' = true) ∧ c[27]? = some (.int .i64 (at32 l0 k).f16) ∧ ∀ i u, c[i]? = some u → W.cell? ((ad.add (k * 28)).add i) = some u := by
  obtain ⟨_, _, hC⟩ := Kd.F_now (Kd.V_F hs0)
  obtain ⟨ad', e, hcell⟩ := hC (by omega)
  cases e
  obtain ⟨c, hcl, hK, hcc⟩ := hcell k _ (at32_eq hk)
  obtain ⟨A2, c2, A8, c8, A14, c14, A17, c17, A21, c21, A25, c25, e, _⟩ := k32_open hK
  refine ⟨c, hcl, k32.K_one hK, by rw [e]; rfl, fun i u hu => ?_⟩
  rw [add_add]
  exact cell_below5 hB (hcc i u hu)
theorem meas {n k : Nat} (h : k < n) (hw : wrap64 ((k : Int) + 1) = (k : Int) + 1) : n - (intOf (.int .i64 (wrap64 ((k : Int) + 1)))).toNat < n - (intOf (.int .i64 (k : Int))).toNat := by
  rw [hw]
  show n - ((k : Int) + 1).toNat < n - (k : Int).toNat
  omega
theorem small_wrap {k : Nat} (h : k < 475464487686) : wrap64 ((k : Int) + 1) = (k : Int) + 1 := by unfold wrap64; omega
theorem noteP_err {st : RSt} {i : Nat} {x : Int} (h : noteP st i = .error x) : (x != 0) = true := by
  unfold noteP at h
  split at h
  · cases h
  · split at h
    · split at h
      · cases h; rfl
      · cases h
    · split at h
      · split at h
        · cases h; rfl
        · cases h
      · cases h
theorem leadP_err {lb : List (ByteArray × Int)} {xs : List S32} {i : Nat} {x : Int} (h : leadP lb xs i = .error x) : (x != 0) = true := by
  unfold leadP at h
  split at h
  · split at h
    · cases h; rfl
    · cases h
  · split at h
    · split at h
      · cases h
      · split at h
        · cases h
        · cases h; rfl
    · cases h
theorem noteP_len {st r : RSt} {i : Nat} (h : noteP st i = .ok r) (h1 : st.op.length ≤ i) (h2 : st.lb.length ≤ i) : r.op.length ≤ i + 1 ∧ r.lb.length ≤ i + 1 := by
  unfold noteP at h
  split at h
  · cases h; simp; omega
  · split at h
    · split at h
      · cases h
      · cases h; simp; omega
    · split at h
      · split at h
        · cases h
        · cases h; simp; omega
      · cases h; omega
theorem notes_bad {l0 : List S32} {st : RSt} {k : Nat} {x : Int} (hk : k < l0.length) (h : noteP st k = .error x) : notes l0 (l0.length - k) st k = .error (x, (at32 l0 k).f16) := by
  obtain ⟨d, hd⟩ : ∃ d, l0.length - k = d + 1 := ⟨l0.length - k - 1, by omega⟩
  rw [hd, notes, h]
theorem notes_good {l0 : List S32} {st r : RSt} {k : Nat} (hk : k < l0.length) (h : noteP st k = .ok r) : notes l0 (l0.length - k) st k = notes l0 (l0.length - (k + 1)) r (k + 1) := by
  obtain ⟨d, hd⟩ : ∃ d, l0.length - k = d + 1 := ⟨l0.length - k - 1, by omega⟩
  rw [hd, notes, h, show l0.length - (k + 1) = d by omega]
theorem notes_done {l0 : List S32} {st s : RSt} (h : notes l0 l0.length s 0 = notes l0 (l0.length - l0.length) st l0.length) : notes l0 l0.length s 0 = .ok st := by
  rw [h, Nat.sub_self]; rfl
theorem leads_bad {l0 : List S32} {lb : List (ByteArray × Int)} {xs : List S32} {k : Nat} {x : Int} (hk : k < l0.length) (h : leadP lb xs k = .error x) : leads l0 lb (l0.length - k) xs k = .error (x, (at32 l0 k).f16) := by
  obtain ⟨d, hd⟩ : ∃ d, l0.length - k = d + 1 := ⟨l0.length - k - 1, by omega⟩
  rw [hd, leads, h]
theorem leads_good {l0 : List S32} {lb : List (ByteArray × Int)} {xs r : List S32} {k : Nat} (hk : k < l0.length) (h : leadP lb xs k = .ok r) : leads l0 lb (l0.length - k) xs k = leads l0 lb (l0.length - (k + 1)) r (k + 1) := by
  obtain ⟨d, hd⟩ : ∃ d, l0.length - k = d + 1 := ⟨l0.length - k - 1, by omega⟩
  rw [hd, leads, h, show l0.length - (k + 1) = d by omega]
theorem leads_done {l0 : List S32} {lb : List (ByteArray × Int)} {xs ys : List S32} (h : leads l0 lb l0.length ys 0 = leads l0 lb (l0.length - l0.length) xs l0.length) : leads l0 lb l0.length ys 0 = .ok xs := by
  rw [h, Nat.sub_self]; rfl
theorem resolve_note {l0 : List S32} {x p : Int} (h : notes l0 l0.length (st0 l0) 0 = .error (x, p)) : resolveP l0 = ([], x, p) := by
  have h' : notes l0 l0.length ⟨l0.map (setJ · 0), [], []⟩ 0 = .error (x, p) := h
  simp only [resolveP, h']
theorem resolve_lead {l0 : List S32} {st : RSt} {x p : Int} (h : notes l0 l0.length (st0 l0) 0 = .ok st) (h2 : leads l0 st.lb l0.length st.xs 0 = .error (x, p)) : resolveP l0 = ([], x, p) := by
  have h' : notes l0 l0.length ⟨l0.map (setJ · 0), [], []⟩ 0 = .ok st := h
  simp only [resolveP, h', h2]
theorem resolve_good {l0 : List S32} {st : RSt} {xs : List S32} (h : notes l0 l0.length (st0 l0) 0 = .ok st) (h2 : leads l0 st.lb l0.length st.xs 0 = .ok xs) : resolveP l0 = (xs, 0, 0) := by
  have h' : notes l0 l0.length ⟨l0.map (setJ · 0), [], []⟩ 0 = .ok st := h
  simp only [resolveP, h', h2]

/-- Which of the two steps is next. -/
def Ph (P0 : Nat → Prop) (w0 w1 : World) (gb g bm n cap : Nat) (l0 : List S32) (p : Int) (wr : World) : Prop :=
  (p = 0 ∧ Rel P0 w0 w1 gb g bm n cap (st0 l0) wr) ∨ (p = 1 ∧ ∃ st, notes l0 l0.length (st0 l0) 0 = .ok st ∧ Rel P0 w0 w1 gb g bm n cap st wr) ∨
  (p = 2 ∧ ∃ st xs, notes l0 l0.length (st0 l0) 0 = .ok st ∧ leads l0 st.lb l0.length st.xs 0 = .ok xs ∧ Rel P0 w0 w1 gb g bm n cap ⟨xs, st.op, st.lb⟩ wr)

set_option maxHeartbeats 1000000 in
set_option maxRecDepth 100000 in
theorem resolve_full (P0_ : Nat → Prop) (ad : Addr) (c0 : Nat) (l0 : List S32) (w : World) (hs0 : Kd.V k32 32 w w.heap.size (fun k_ => P0_ k_) (.slice (some ad) l0.length c0) l0) (hn : l0.length < 475464487686) (hp : 0 < l0.length) (hsz : ∀ x ∈ l0, x.f5.size ≤ maxLen) :
    Calls Try.prog 7 #[.slice (some ad) l0.length c0] w fun e w' => ∃ v0_ : Value, e = .returned (.tuple #[v0_, .int .u16 (resolveP l0).2.1, .int .i64 (resolveP l0).2.2]) ∧ Kd.N k32 32 w' w.heap.size (fun k_ => (P0_ k_ ∨ w.heap.size ≤ k_)) v0_ (resolveP l0).1 ∧ Below w.heap.size w w' := by
  have hmm := @run_makeMap Try.prog
  have HS := Aside0.mk hs0
  have HN := Aside0.mk hn
  have HP := Aside0.mk hp
  have HZ := Aside0.mk hsz
  clear hs0 hn hp hsz
  go_enter Try.func7, Try.ntmps7
  go_wp2_with (first | (go_at_call 11; (refine (clone_calls P0_ _ _ l0 _ HS.out HN.out).mono ?_); rintro e w1 ⟨v1, rfl, hN, hB⟩; obtain ⟨gb, cap, rows, cur, rfl, h1, h2, h3, h4, h5, h6, h7, h8⟩ := N_start hN HP.out; have HM0 := Aside0.mk (show Rel P0_ w w1 gb _ _ l0.length cap (cleared l0 0) _ from ⟨⟨rows, Mem_start hB h1 h2 h3 h4 h5 h6 h8.1 h7, by simpa [cleared] using h8⟩, by simp [cleared], by simp [cleared], by simpa [cleared] using HZ.out⟩); clear hN hB h1 h2 h3 h4 h5 h6 h7 h8))
  generalize (w1.alloc (Obj.map #[] 0)).alloc (Obj.cells #[Value.slice (some ⟨gb, 0, none⟩) l0.length cap, Value.slice none 0 0, Value.map (some w1.heap.size)] 49) = w3 at HM0 ⊢
  generalize w1.heap.size + 1 = g at HM0 ⊢
  generalize w1.heap.size = bm at HM0 ⊢
  clear hmm
  go_loopw [22] (fun v wr => ∃ k : Nat, Aside0 (k ≤ l0.length) ∧ v = .int .i64 k ∧ Aside0 (Rel P0_ w w1 gb g bm l0.length cap (cleared l0 k) wr)) (fun v _ => l0.length - (intOf v).toNat)
  case atStart => exact ⟨0, ⟨Nat.zero_le _⟩, rfl, HM0⟩
  case round =>
    obtain ⟨k, hk, rfl, HR⟩ := hrel
    by_cases hlt : k < l0.length
    · have hw : wrap64 ((k : Int) + 1) = (k : Int) + 1 := small_wrap (Nat.lt_trans hlt HN.out)
      have k0 := HR.out.c0
      have b1 : (k : Int) < l0.length := by omega
      have HK := Aside0.mk hlt
      clear hlt
      go_wp2_with (first | ((with_reducible refine gate_store (t := 3) (p := 31) (v := .const (.int .i64 0)) rfl ?_); (refine store_one rfl rfl 3 (.tmp 31) _ rfl ⟨gb, k * 28 + 26, none⟩ (.int .i64 0) ?hx rfl rfl size3 (HR.out.spot HK.out).1 (HR.out.spot HK.out).2 ?_); (case hx => first | rfl | (simp [Act.eval, add_at]; done) | (simp [Act.eval]; done)); intro w4 e4; have H4 := Aside0.mk (show Rel P0_ w w1 gb g bm l0.length cap (cleared l0 (k + 1)) w4 from e4 ▸ HR.out.clear HK.out); clear e4))
      go_roundw
      case rel => exact ⟨k + 1, ⟨HK.out⟩, by rw [hw]; go_num, H4⟩
      case measure => exact meas HK.out hw
    · have hkn : k = l0.length := by have := hk.out; omega
      subst hkn
      clear hlt
      have HP0 := Aside0.mk (show Ph P0_ w w1 gb g bm l0.length cap l0 0 wr from .inl ⟨rfl, cleared_all l0 ▸ HR.out⟩)
      clear HR HM0
      obtain ⟨wa, rfl⟩ : ∃ wa : World, wa = wr := ⟨_, rfl⟩
      go_wp2
      go_loopw [38] (fun v wr => ∃ p : Int, v = .int .i64 p ∧ Aside0 (Ph P0_ w w1 gb g bm l0.length cap l0 p wr)) (fun v _ => 2 - (intOf v).toNat)
      case atStart => exact ⟨0, rfl, HP0⟩
      case round =>
      clear HP0
      have i0 : ∀ (W : World), (Instr.index 51 (.agg #[.func (.func 12) #[.pointer (some ⟨g, 0, none⟩)] #[], .func (.func 13) #[.pointer (some ⟨g, 0, none⟩)] #[]]) (.int .i64 0)).run Try.prog W = .ok (.func (.func 12) #[.pointer (some ⟨g, 0, none⟩)] #[]) W := fun W => by kernel_rfl
      have i1 : ∀ (W : World), (Instr.index 51 (.agg #[.func (.func 12) #[.pointer (some ⟨g, 0, none⟩)] #[], .func (.func 13) #[.pointer (some ⟨g, 0, none⟩)] #[]]) (.int .i64 1)).run Try.prog W = .ok (.func (.func 13) #[.pointer (some ⟨g, 0, none⟩)] #[]) W := fun W => by kernel_rfl
      obtain ⟨p, rfl, HPh⟩ := hrel
      rcases HPh.out with ⟨rfl, hr⟩ | ⟨rfl, st1, hs1, hr⟩ | ⟨rfl, st1, xs, hs1, hl1, hr⟩
      · have HR := Aside0.mk hr
        clear hr HPh i1
        obtain ⟨wb, rfl⟩ : ∃ wb : World, wb = wr := ⟨_, rfl⟩
        go_wp2
        go_loopw [43] (fun v wr => ∃ (k : Nat) (st : RSt), Aside0 (k ≤ l0.length) ∧ v = .int .i64 k ∧ Aside0 (notes l0 l0.length (st0 l0) 0 = notes l0 (l0.length - k) st k ∧ st.op.length ≤ k ∧ st.lb.length ≤ k) ∧ Aside0 (Rel P0_ w w1 gb g bm l0.length cap st wr)) (fun v _ => l0.length - (intOf v).toNat)
        case atStart => exact ⟨0, st0 l0, ⟨Nat.zero_le _⟩, rfl, ⟨rfl, Nat.le_refl _, Nat.le_refl _⟩, HR⟩
        case round =>
          clear HR
          obtain ⟨k, st, hk, rfl, HI, HR⟩ := hrel
          by_cases hlt : k < l0.length
          · have hw : wrap64 ((k : Int) + 1) = (k : Int) + 1 := small_wrap (Nat.lt_trans hlt HN.out)
            have b0 : (0 : Int) ≤ k := by omega
            have b1 : (k : Int) < l0.length := by omega
            obtain ⟨c, hl, ho, h27, hcc⟩ := old_elem HS.out HR.out.bel hlt
            have HL := Aside0.mk hl
            have HO := Aside0.mk ho
            have H27 := Aside0.mk h27
            have HC := Aside0.mk hcc
            have HK := Aside0.mk hlt
            clear hlt hl ho h27 hcc
            cases hnp : noteP st k with
            | error x =>
              have hne : (x != 0) = true := noteP_err hnp
              have HE := Aside0.mk (HI.out.1.trans (notes_bad HK.out hnp))
              have HNP := Aside0.mk hnp
              clear hnp
              go_wp2_with (first | ((with_reducible refine gate_dst (N := 47) rfl ?_); (refine load_whole rfl 32 _ rfl (ad.add (k * 28)) ?hx Try.underlying32 c (size32 HL.out) HC.out ?_); (case hx => first | rfl | (simp [Act.eval]; done))) | ((with_reducible refine gate_dst (N := 10) rfl ?_); (refine box_event ?hg (N := 10) ?hd (cs := zero32) (t := 32) ?hr ?_); (case hd => rfl); (case hg => rfl); (case hr => first | (go_simp; done) | (go_simp; rfl)); intro gc hgc w2 hbox hb2; have BX := Aside0.mk hbox; have B2 := Aside0.mk hb2; have GC := Aside0.mk hgc; clear hbox hb2 hgc) | ((with_reducible refine gate_store (t := 32) (p := 10) (v := .tmp 47) rfl ?_); (refine store_whole rfl rfl 32 (.tmp 10) (.tmp 47) rfl gc c ?hx ?hy zero32 BX.out (size32 HL.out) ?ho HO.out ?_); (case hx => rfl); (case hy => rfl); (case ho => rw [HL.out]; rfl); intro w3 hb3 hg3; obtain ⟨H3, q27⟩ := copied HR.out GC.out B2.out hb3 hg3 H27.out; clear hb3 hg3) | (go_at_call 12; (refine (note_step H3.out HK.out HI.out.2.1 HI.out.2.2 HN.out).mono ?_); intro e w5 he5; rw [HNP.out] at he5; obtain ⟨rfl, hb5⟩ := he5; have HB5 := Aside0.mk hb5; have q5 := cell_below5 hb5 q27; clear hb5))
              go_quiet (fail)
              go_wp2
              go_ret3
              exact ⟨_, by rw [resolve_note HE.out]; rfl, by rw [resolve_note HE.out]; exact Kd.N_nil _ _ _ _ _, pw_below_drewN (H3.out.bel.trans (HB5.out.mono H3.out.bel.size)) _⟩
            | ok r =>
              have HE := Aside0.mk (HI.out.1.trans (notes_good HK.out hnp))
              have HG := Aside0.mk (noteP_len hnp HI.out.2.1 HI.out.2.2)
              have HNP := Aside0.mk hnp
              clear hnp
              go_wp2_with (first | ((with_reducible refine gate_dst (N := 47) rfl ?_); (refine load_whole rfl 32 _ rfl (ad.add (k * 28)) ?hx Try.underlying32 c (size32 HL.out) HC.out ?_); (case hx => first | rfl | (simp [Act.eval]; done))) | ((with_reducible refine gate_dst (N := 10) rfl ?_); (refine box_event ?hg (N := 10) ?hd (cs := zero32) (t := 32) ?hr ?_); (case hd => rfl); (case hg => rfl); (case hr => first | (go_simp; done) | (go_simp; rfl)); intro gc hgc w2 hbox hb2; have BX := Aside0.mk hbox; have B2 := Aside0.mk hb2; have GC := Aside0.mk hgc; clear hbox hb2 hgc) | ((with_reducible refine gate_store (t := 32) (p := 10) (v := .tmp 47) rfl ?_); (refine store_whole rfl rfl 32 (.tmp 10) (.tmp 47) rfl gc c ?hx ?hy zero32 BX.out (size32 HL.out) ?ho HO.out ?_); (case hx => rfl); (case hy => rfl); (case ho => rw [HL.out]; rfl); intro w3 hb3 hg3; obtain ⟨H3, q27⟩ := copied HR.out GC.out B2.out hb3 hg3 H27.out; clear hb3 hg3) | (go_at_call 12; (refine (note_step H3.out HK.out HI.out.2.1 HI.out.2.2 HN.out).mono ?_); intro e w5 he5; rw [HNP.out] at he5; obtain ⟨rfl, hr5⟩ := he5; have HR5 := Aside0.mk hr5; clear hr5))
              go_roundw
              case rel => exact ⟨k + 1, r, ⟨HK.out⟩, by rw [hw]; go_num, ⟨HE.out, HG.out⟩, HR5⟩
              case measure => exact meas HK.out hw
          · have hkn : k = l0.length := by have := hk.out; omega
            subst hkn
            clear hlt
            have HF := Aside0.mk (notes_done HI.out.1)
            go_wp2
            go_roundw
            case rel => exact ⟨1, rfl, ⟨.inr (.inl ⟨rfl, st, HF.out, HR.out⟩)⟩⟩
            case measure => exact (by decide)
      · have HR := Aside0.mk hr
        have HS1 := Aside0.mk hs1
        clear hr hs1 HPh i0
        obtain ⟨wb, rfl⟩ : ∃ wb : World, wb = wr := ⟨_, rfl⟩
        go_wp2
        go_loopw [43] (fun v wr => ∃ (k : Nat) (xs : List S32), Aside0 (k ≤ l0.length) ∧ v = .int .i64 k ∧ Aside0 (leads l0 st1.lb l0.length st1.xs 0 = leads l0 st1.lb (l0.length - k) xs k) ∧ Aside0 (Rel P0_ w w1 gb g bm l0.length cap ⟨xs, st1.op, st1.lb⟩ wr)) (fun v _ => l0.length - (intOf v).toNat)
        case atStart => exact ⟨0, st1.xs, ⟨Nat.zero_le _⟩, rfl, ⟨rfl⟩, HR⟩
        case round =>
          clear HR
          obtain ⟨k, xs, hk, rfl, HI, HR⟩ := hrel
          by_cases hlt : k < l0.length
          · have hw : wrap64 ((k : Int) + 1) = (k : Int) + 1 := small_wrap (Nat.lt_trans hlt HN.out)
            have b0 : (0 : Int) ≤ k := by omega
            have b1 : (k : Int) < l0.length := by omega
            obtain ⟨c, hl, ho, h27, hcc⟩ := old_elem HS.out HR.out.bel hlt
            have HL := Aside0.mk hl
            have HO := Aside0.mk ho
            have H27 := Aside0.mk h27
            have HC := Aside0.mk hcc
            have HK := Aside0.mk hlt
            clear hlt hl ho h27 hcc
            cases hnp : leadP st1.lb xs k with
            | error x =>
              have hne : (x != 0) = true := leadP_err hnp
              have HE := Aside0.mk (HI.out.trans (leads_bad HK.out hnp))
              have HNP := Aside0.mk hnp
              clear hnp
              go_wp2_with (first | ((with_reducible refine gate_dst (N := 47) rfl ?_); (refine load_whole rfl 32 _ rfl (ad.add (k * 28)) ?hx Try.underlying32 c (size32 HL.out) HC.out ?_); (case hx => first | rfl | (simp [Act.eval]; done))) | ((with_reducible refine gate_dst (N := 10) rfl ?_); (refine box_event ?hg (N := 10) ?hd (cs := zero32) (t := 32) ?hr ?_); (case hd => rfl); (case hg => rfl); (case hr => first | (go_simp; done) | (go_simp; rfl)); intro gc hgc w2 hbox hb2; have BX := Aside0.mk hbox; have B2 := Aside0.mk hb2; have GC := Aside0.mk hgc; clear hbox hb2 hgc) | ((with_reducible refine gate_store (t := 32) (p := 10) (v := .tmp 47) rfl ?_); (refine store_whole rfl rfl 32 (.tmp 10) (.tmp 47) rfl gc c ?hx ?hy zero32 BX.out (size32 HL.out) ?ho HO.out ?_); (case hx => rfl); (case hy => rfl); (case ho => rw [HL.out]; rfl); intro w3 hb3 hg3; obtain ⟨H3, q27⟩ := copied HR.out GC.out B2.out hb3 hg3 H27.out; clear hb3 hg3) | (go_at_call 13; (refine (lead_step H3.out HK.out).mono ?_); intro e w5 he5; rw [HNP.out] at he5; obtain ⟨rfl, hb5⟩ := he5; have HB5 := Aside0.mk hb5; have q5 := cell_below5 hb5 q27; clear hb5))
              go_quiet (fail)
              go_wp2
              go_ret3
              exact ⟨_, by rw [resolve_lead HS1.out HE.out]; rfl, by rw [resolve_lead HS1.out HE.out]; exact Kd.N_nil _ _ _ _ _, pw_below_drewN (H3.out.bel.trans (HB5.out.mono H3.out.bel.size)) _⟩
            | ok r =>
              have HE := Aside0.mk (HI.out.trans (leads_good HK.out hnp))
              have HNP := Aside0.mk hnp
              clear hnp
              go_wp2_with (first | ((with_reducible refine gate_dst (N := 47) rfl ?_); (refine load_whole rfl 32 _ rfl (ad.add (k * 28)) ?hx Try.underlying32 c (size32 HL.out) HC.out ?_); (case hx => first | rfl | (simp [Act.eval]; done))) | ((with_reducible refine gate_dst (N := 10) rfl ?_); (refine box_event ?hg (N := 10) ?hd (cs := zero32) (t := 32) ?hr ?_); (case hd => rfl); (case hg => rfl); (case hr => first | (go_simp; done) | (go_simp; rfl)); intro gc hgc w2 hbox hb2; have BX := Aside0.mk hbox; have B2 := Aside0.mk hb2; have GC := Aside0.mk hgc; clear hbox hb2 hgc) | ((with_reducible refine gate_store (t := 32) (p := 10) (v := .tmp 47) rfl ?_); (refine store_whole rfl rfl 32 (.tmp 10) (.tmp 47) rfl gc c ?hx ?hy zero32 BX.out (size32 HL.out) ?ho HO.out ?_); (case hx => rfl); (case hy => rfl); (case ho => rw [HL.out]; rfl); intro w3 hb3 hg3; obtain ⟨H3, q27⟩ := copied HR.out GC.out B2.out hb3 hg3 H27.out; clear hb3 hg3) | (go_at_call 13; (refine (lead_step H3.out HK.out).mono ?_); intro e w5 he5; rw [HNP.out] at he5; obtain ⟨rfl, hr5⟩ := he5; have HR5 := Aside0.mk hr5; clear hr5))
              go_roundw
              case rel => exact ⟨k + 1, r, ⟨HK.out⟩, by rw [hw]; go_num, HE, HR5⟩
              case measure => exact meas HK.out hw
          · have hkn : k = l0.length := by have := hk.out; omega
            subst hkn
            clear hlt
            have HF := Aside0.mk (leads_done HI.out)
            go_wp2
            go_roundw
            case rel => exact ⟨2, rfl, ⟨.inr (.inr ⟨rfl, st1, xs, HS1.out, HF.out, HR.out⟩)⟩⟩
            case measure => exact (by decide)
      · have HR := Aside0.mk hr
        have HG := Aside0.mk (resolve_good hs1 hl1)
        have k0 := hr.c0
        clear hr hs1 hl1 HPh i0 i1
        go_wp2
        go_ret3
        exact ⟨_, by rw [HG.out]; rfl, by rw [HG.out]; exact (by have := HR.out.toN; rw [HR.out.len] at this; exact this), HR.out.bel⟩

set_option maxRecDepth 100000 in
/-- .. of no commands. -/
theorem resolve_none (P0_ : Nat → Prop) (A0 : Option Addr) (c0 : Nat) (w : World) (hs0 : Kd.V k32 32 w w.heap.size (fun k_ => P0_ k_) (.slice A0 ([] : List S32).length c0) []) :
    Calls Try.prog 7 #[.slice A0 ([] : List S32).length c0] w fun e w' => ∃ v0_ : Value, e = .returned (.tuple #[v0_, .int .u16 0, .int .i64 0]) ∧ Kd.N k32 32 w' w.heap.size (fun k_ => (P0_ k_ ∨ w.heap.size ≤ k_)) v0_ [] ∧ Below w.heap.size w w' := by
  have hmm := @run_makeMap Try.prog
  have HS := Aside0.mk hs0
  clear hs0
  go_enter Try.func7, Try.ntmps7
  go_wp2_with (first | (go_at_call 11; (refine (clone_calls P0_ _ _ [] _ HS.out (by decide)).mono ?_); rintro e w1 ⟨v1, rfl, hN, hB⟩; obtain ⟨A1, c1, e1⟩ := Kd.N_slice hN; simp only [List.length_nil] at e1; subst e1; have HNN := Aside0.mk hN; have HB := Aside0.mk hB; clear hN hB))
  have HN3 := Aside0.mk (Kd.N_alloc (Kd.N_alloc HNN.out (Obj.map #[] 0)) (Obj.cells #[Value.slice A1 0 c1, Value.slice none 0 0, Value.map (some w1.heap.size)] 49))
  have HB3 := Aside0.mk (below_alloc (below_alloc HB.out (Obj.map #[] 0)) (Obj.cells #[Value.slice A1 0 c1, Value.slice none 0 0, Value.map (some w1.heap.size)] 49))
  have k0 : ((w1.alloc (Obj.map #[] 0)).alloc (Obj.cells #[Value.slice A1 0 c1, Value.slice none 0 0, Value.map (some w1.heap.size)] 49)).cell? ⟨w1.heap.size + 1, 0, none⟩ = some (Value.slice A1 0 c1) := by
    have := blk_new (w1.alloc (.map #[] 0)) (.cells #[Value.slice A1 0 c1, Value.slice none 0 0, Value.map (some w1.heap.size)] 49)
    simp only [World.size_alloc] at this
    exact (blk_cell this 0).trans rfl
  generalize (w1.alloc (Obj.map #[] 0)).alloc (Obj.cells #[Value.slice A1 0 c1, Value.slice none 0 0, Value.map (some w1.heap.size)] 49) = w3 at HN3 HB3 k0 ⊢
  generalize w1.heap.size + 1 = g at k0 ⊢
  clear hmm
  go_loop [22] (fun v => v = .int .i64 0) (fun v => 0)
  case atStart => rfl
  case round =>
    subst hrel
    go_wp2
    have i0 : ∀ (W : World), (Instr.index 51 (.agg #[.func (.func 12) #[.pointer (some ⟨g, 0, none⟩)] #[], .func (.func 13) #[.pointer (some ⟨g, 0, none⟩)] #[]]) (.int .i64 0)).run Try.prog W = .ok (.func (.func 12) #[.pointer (some ⟨g, 0, none⟩)] #[]) W := fun W => by kernel_rfl
    have i1 : ∀ (W : World), (Instr.index 51 (.agg #[.func (.func 12) #[.pointer (some ⟨g, 0, none⟩)] #[], .func (.func 13) #[.pointer (some ⟨g, 0, none⟩)] #[]]) (.int .i64 1)).run Try.prog W = .ok (.func (.func 13) #[.pointer (some ⟨g, 0, none⟩)] #[]) W := fun W => by kernel_rfl
    go_loop [38] (fun v => v = .int .i64 0 ∨ v = .int .i64 1 ∨ v = .int .i64 2) (fun v => 2 - (intOf v).toNat)
    case atStart => exact .inl rfl
    case round =>
    rcases hrel with rfl | rfl | rfl
    · go_wp2
      go_loop [43] (fun v => v = .int .i64 0) (fun v => 0)
      case atStart => rfl
      case round =>
        subst hrel
        go_wp2
        go_round
        case rel => exact .inr (.inl rfl)
        case measure => exact (by decide)
    · go_wp2
      go_loop [43] (fun v => v = .int .i64 0) (fun v => 0)
      case atStart => rfl
      case round =>
        subst hrel
        go_wp2
        go_round
        case rel => exact .inr (.inr rfl)
        case measure => exact (by decide)
    · go_wp2
      go_ret3
      exact ⟨_, rfl, HN3.out, HB3.out⟩

theorem resolveP_nil : resolveP [] = ([], 0, 0) := rfl

/-- What Resolve comes to. -/
theorem flat_Resolve.calls (P0_ : Nat → Prop) (A0 : Option Addr) (c0 : Nat) (l0 : List (S32)) (r1 : List (S32)) (r2 : Int) (r3 : Int) (w : World) (hs0 : Kd.V k32 32 w w.heap.size (fun k_ => P0_ k_) (.slice A0 l0.length c0) l0) (h : flat_Resolve.f l0 = some (r1, r2, r3)) :
    Calls Try.prog 7 #[.slice A0 l0.length c0] w fun e w' => ∃ v0_ : Value, e = .returned (.tuple #[v0_, .int .u16 r2, .int .i64 r3]) ∧ Kd.N k32 32 w' w.heap.size (fun k_ => (P0_ k_ ∨ w.heap.size ≤ k_)) v0_ r1 ∧ Below w.heap.size w w' := by
  unfold flat_Resolve.f at h
  split at h
  · rename_i hc
    obtain ⟨hn, hsz⟩ := hc
    have h' : resolveP l0 = (r1, r2, r3) := Option.some.inj h
    rcases Nat.eq_zero_or_pos l0.length with h0 | h0
    · have : l0 = [] := List.eq_nil_of_length_eq_zero h0
      subst this
      rw [resolveP_nil] at h'
      cases h'
      exact resolve_none P0_ A0 c0 w hs0
    · obtain ⟨_, _, hC⟩ := Kd.F_now (Kd.V_F hs0)
      obtain ⟨ad, rfl, _⟩ := hC h0
      have := resolve_full P0_ ad c0 l0 w hs0 hn h0 hsz
      rw [h'] at this
      exact this
  · cases h
end Go.Proofs.Ytgennlcbmepchaa.PAll
