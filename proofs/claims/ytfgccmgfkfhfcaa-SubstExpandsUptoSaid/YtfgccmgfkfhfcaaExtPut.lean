/- subst's put: a cell behind the parts. -/
import Derived.Test.YtfgccmgfkfhfcaaExtStep
namespace Go.Proofs.Ytfgccmgfkfhfcaa.PAll
open Go.RowKit Go.Proofs.YtfgccmgfkfhfcaaW.PrintWords Go.Proofs.YtfgccmgfkfhfcaaW.PrintLast Go.Proofs.YtfgccmgfkfhfcaaW.PrintMore
set_option linter.unusedVariables false
set_option linter.unusedSimpArgs false
def lastT (l : List S49) : S49 := rd_T49 l ((l.length - 1 : Nat) : Int)
/-- A cell laid behind parts. -/
def putP (l : List S49) (c : Int) : List S49 :=
  if 0 < l.length ∧ (lastT l).f0 = 1 then l.set (l.length - 1) ⟨1, (lastT l).f1 ++ [c], (lastT l).f2⟩ else l ++ [⟨1, [c], 0⟩]
theorem R_one {w : World} {base g : Nat} {ok : Nat → Prop} (k0 : IntKind) (e : Nat) (c : Int) (hb : w.heap[g]? = some (.cells #[.int k0 c] e (0, 0))) (hg : base ≤ g) (hok : ok g) : (Kd.int k0).R e w base ok (.slice (some ⟨g, 0, none⟩) 1 1) [c] := by
  refine ⟨fun k hk => ?_, [.int k0 c], ⟨by simp [Kd.int, Kd.scalar], .inr ⟨g, 1, #[.int k0 c], rfl, hg, hb, by simp, by simp [maxLen], by simp [Kd.int, Kd.scalar], by simp [Kd.int, Kd.scalar]⟩⟩, ⟨by simp [Kd.int, Kd.scalar], fun j p hj => ?_⟩⟩
  · have : g = k := by simpa [Value.ownBlock] using hk
    exact this ▸ hok
  · have hj0 : j = 0 := by have := (List.getElem?_eq_some_iff.1 hj).1; simpa using this
    subst hj0
    have hp : c = p := by simpa using hj
    subst hp
    rfl
set_option maxHeartbeats 1000000 in
theorem put_new (base : Nat) (A : Option Addr) (c0 : Nat) (l : List S49) (c : Int) (w : World) (hS : Kd.S k49 49 w base (fun _ => True) (.slice A l.length c0) l) (hbs : base ≤ w.heap.size) (hn : l.length < 1099511627776) (hk : ¬ (0 < l.length ∧ (lastT l).f0 = 1)) :
    Calls Try.prog 23 #[.slice A l.length c0, .int .i32 c] w fun e w' => ∃ v, e = .returned v ∧ Kd.S k49 49 w' base (fun _ => True) v (l ++ [⟨1, [c], 0⟩]) ∧ Below base w w' := by
  have HS := Aside0.mk hS
  have HB := Aside0.mk hbs
  have HN := Aside0.mk hn
  rcases Nat.eq_zero_or_pos l.length with h0 | h0
  · have b0 : decide (0 < l.length) = false := by rw [h0]; rfl
    clear hS hbs hn hk h0
    go_enter Try.func23, Try.ntmps23
    go_wp2_with (first | ((with_reducible refine gate_builtin (b := .append) (xs := #[.tmp 34, .tmp 38]) rfl ?_); at_builtin; (refine Kd.S_append k49 (w0 := w) base rfl (.tmp 34) (.tmp 38) 38 49 (.agg #[.int .u8 0, .slice none 0 0, .int .i64 0]) 40 rfl Try.underlying38 info49 rfl (by decide) (by omega) (.slice A l.length c0) l (⟨1, [c], 0⟩ : S49) [.int .u8 1, .slice (some ⟨w.heap.size, 0, none⟩) 1 1, .int .i64 0] (fun _ => True) (fun k_ => k_ = w.heap.size) rfl ?ax ?aP ?aK (fun _ _ => trivial) ?aO ?aB ?aS ?aL ?_); (case ax => first | rfl | (go_simp; done) | (go_simp; rfl)); (case aP => exact k49_mkM _ _ _ (⟨1, [c], 0⟩ : S49) (R_one .i32 24 c (blk_new w _) HB.out rfl)); (case aK => rintro k_ rfl; exact ⟨trivial, fun e_ => by have := Kd.S_lt HS.out _ e_.symm; omega⟩); (case aO => exact Kd.S_mono (Kd.S_alloc (Kd.S_bound HS.out) _) (fun k_ hk_ => ⟨trivial, fun e_ => by have := hk_.2.2.1; omega⟩)); (case aB => exact (Below.refl _ _).alloc HB.out _); (case aS => have := HB.out; simp; omega); (case aL => have := HN.out; omega); intro v1 w1 ho hb hg hat; have HO := Aside0.mk (And.intro ho hb); (obtain ⟨A1, c1, e1⟩ := Kd.R_slice (Kd.S_R ho)); subst e1; clear ho hb hg hat))
    go_ret
    exact ⟨_, rfl, by have h_ := HO.out.1; rw [show (l ++ [(⟨1, [c], 0⟩ : S49)]).length = l.length + 1 by simp] at h_; exact h_, HO.out.2⟩
  · have b0 : decide (0 < l.length) = true := by simpa using h0
    have hkk : (lastT l).f0 ≠ 1 := fun e => hk ⟨h0, e⟩
    obtain ⟨_, _, hC⟩ := Kd.S_reads' HS.out
    obtain ⟨ad, A1_, c1_, rfl, q0, _, _, _⟩ := at_T49 hC ((l.length - 1 : Nat) : Int) (by omega) (by omega)
    rw [show rd_T49 l ((l.length - 1 : Nat) : Int) = lastT l from rfl] at q0
    simp only [Int.toNat_natCast] at q0
    have hkb : ((lastT l).f0 == 1) = false := by simpa using hkk
    have hw : wrap64 ((l.length : Int) - 1) = ((l.length - 1 : Nat) : Int) := by have := HN.out; unfold wrap64; omega
    have b1 : (1 : Int) ≤ l.length := by omega
    have b2 : l.length - 1 < l.length := by omega
    clear hS hbs hn hk h0 hkk hC
    go_enter Try.func23, Try.ntmps23
    go_wp2_with (first | ((with_reducible refine gate_builtin (b := .append) (xs := #[.tmp 34, .tmp 38]) rfl ?_); at_builtin; (refine Kd.S_append k49 (w0 := w) base rfl (.tmp 34) (.tmp 38) 38 49 (.agg #[.int .u8 0, .slice none 0 0, .int .i64 0]) 40 rfl Try.underlying38 info49 rfl (by decide) (by omega) (.slice (some ad) l.length c0) l (⟨1, [c], 0⟩ : S49) [.int .u8 1, .slice (some ⟨w.heap.size, 0, none⟩) 1 1, .int .i64 0] (fun _ => True) (fun k_ => k_ = w.heap.size) rfl ?ax ?aP ?aK (fun _ _ => trivial) ?aO ?aB ?aS ?aL ?_); (case ax => first | rfl | (go_simp; done) | (go_simp; rfl)); (case aP => exact k49_mkM _ _ _ (⟨1, [c], 0⟩ : S49) (R_one .i32 24 c (blk_new w _) HB.out rfl)); (case aK => rintro k_ rfl; exact ⟨trivial, fun e_ => by have := Kd.S_lt HS.out _ e_.symm; omega⟩); (case aO => exact Kd.S_mono (Kd.S_alloc (Kd.S_bound HS.out) _) (fun k_ hk_ => ⟨trivial, fun e_ => by have := hk_.2.2.1; omega⟩)); (case aB => exact (Below.refl _ _).alloc HB.out _); (case aS => have := HB.out; simp; omega); (case aL => have := HN.out; omega); intro v1 w1 ho hb hg hat; have HO := Aside0.mk (And.intro ho hb); (obtain ⟨A1, c1, e1⟩ := Kd.R_slice (Kd.S_R ho)); subst e1; clear ho hb hg hat))
    go_ret
    exact ⟨_, rfl, by have h_ := HO.out.1; rw [show (l ++ [(⟨1, [c], 0⟩ : S49)]).length = l.length + 1 by simp] at h_; exact h_, HO.out.2⟩
set_option maxHeartbeats 1000000 in
theorem put_old (base : Nat) (A : Option Addr) (c0 : Nat) (l : List S49) (c : Int) (w : World) (hS : Kd.S k49 49 w base (fun _ => True) (.slice A l.length c0) l) (hbs : base ≤ w.heap.size) (hn : l.length < 1099511627776) (hm : (lastT l).f1.length < 1099511627776) (h0 : 0 < l.length) (hk : (lastT l).f0 = 1) :
    Calls Try.prog 23 #[.slice A l.length c0, .int .i32 c] w fun e w' => ∃ v, e = .returned v ∧ Kd.S k49 49 w' base (fun _ => True) v (l.set (l.length - 1) ⟨1, (lastT l).f1 ++ [c], (lastT l).f2⟩) ∧ Below base w w' := by
  obtain ⟨g, cap, e1, hg1, hg2, cells, hg3⟩ := Kd.S_form hS h0
  injection e1 with e2 _ e3
  subst e2; subst e3
  obtain ⟨oki, cc, hcl, hM, hcc, hfr, hoki, hH⟩ := Kd.S_elem hS z49 ((l.length - 1 : Nat) : Int) (by omega) (by omega)
  rw [show l.getD ((l.length - 1 : Nat) : Int).toNat z49 = lastT l from rfl] at hM
  obtain ⟨v1, rfl, hR⟩ := k49_openM hM
  have HH := Aside0.mk (Kd.H_widen hH)
  have HR := Aside0.mk (Kd.R_mono (ok' := fun k => oki k ∨ True ∧ w.heap.size ≤ k) hR (fun k hk => .inl hk))
  have HO := Aside0.mk (fun k (hk : v1.ownBlock = some k) => hR.1 k hk)
  obtain ⟨A1, c1, rfl⟩ := Kd.R_slice hR
  have q0 := hcc 0 _ rfl
  have q1 := hcc 1 _ rfl
  have f1 := hfr 1
  rw [hk] at q0
  simp only [Int.toNat_natCast, Nat.add_zero, show k49.sz = 3 from rfl] at q0 q1 f1
  have hw : wrap64 ((l.length : Int) - 1) = ((l.length - 1 : Nat) : Int) := by unfold wrap64; omega
  have b0 : decide (0 < l.length) = true := by simpa using h0
  have b1 : (1 : Int) ≤ l.length := by omega
  have b2 : l.length - 1 < l.length := by omega
  have HB := Aside0.mk hbs
  have HN := Aside0.mk hn
  have HM := Aside0.mk hm
  have HK := Aside0.mk hk
  obtain ⟨f2, hf2⟩ : ∃ f2, f2 = (lastT l).f1 ++ [c] := ⟨_, rfl⟩
  rw [← hf2]
  have NF := Aside0.mk hf2
  clear hf2 hS hbs hn hm hk h0 hM hcc hfr hoki hH hR hcl hg1 hg2 hg3
  go_enter Try.func23, Try.ntmps23
  go_wp2_with (first | ((with_reducible refine gate_builtin (b := .append) (xs := #[.tmp 27, .tmp 29]) rfl ?_); at_builtin; (refine Kd.R_append (Kd.int .i32) (w0 := w) base rfl (.tmp 27) (.tmp 29) 23 24 (.int .i32 0) 4 rfl Try.underlying23 info24 rfl (by decide) (by omega) (.slice A1 (lastT l).f1.length c1) (lastT l).f1 c [.int .i32 c] (fun k => oki k ∨ True ∧ w.heap.size ≤ k) (fun _ => False) rfl ?ax rfl (fun _ h_ => h_.elim) (fun k_ hk_ => .inr ⟨trivial, hk_⟩) HR.out (Below.refl _ _) HB.out ?aL ?_); (case ax => first | rfl | (go_simp; done) | (go_simp; rfl)); (case aL => have := HM.out; omega); intro v2 w1 ho hb hg hat; rw [← NF.out] at ho; have HR2 := Aside0.mk (And.intro ho hb); have HH2 := Aside0.mk (Kd.H_grown HH.out hg (fun k_ e_ => .inl (HO.out k_ e_))); (obtain ⟨A2, c2, e2⟩ := Kd.R_slice ho); subst e2; clear ho hb hg hat q0 q1 f1) | ((with_reducible refine gate_store (t := 23) (p := 32) (v := .tmp 30) rfl ?_); (refine Kd.H_store k49 (w0 := w) (W := w1) (g := g) (n := l.length) (cap := c0) (o' := (l.length - 1) * 3 + 1) base rfl rfl 23 (.tmp 32) (.tmp 30) rfl 49 ((l.length - 1 : Nat) : Int) 1 l (⟨1, f2, (lastT l).f2⟩ : S49) (.slice A2 f2.length c2) [.slice A2 f2.length c2] [.int .u8 (lastT l).f0, .slice A1 (lastT l).f1.length c1, .int .i64 (lastT l).f2] (fun _ => True) (fun k => oki k ∨ True ∧ w.heap.size ≤ k) (fun k => oki k ∨ True ∧ w.heap.size ≤ k) ?sa ?so ?sx rfl ?st (fun q_ hq_ => (List.mem_singleton.1 hq_) ▸ rfl) HH2.out ?s0 ?s1 (show 1 + 1 ≤ 3 from by decide) ?sM (fun _ h_ => h_) HR2.out.2 ?_); (case sa => first | rfl | (go_simp; done) | (go_simp; rfl)); (case so => rfl); (case sx => first | rfl | (go_simp; done) | (go_simp; rfl)); (case st => kernel_rfl); (case s0 => omega); (case s1 => omega); (case sM => rw [HK.out]; exact k49_mkM _ _ _ (⟨1, f2, (lastT l).f2⟩ : S49) HR2.out.1); intro w2 hs hb hg; have HF := Aside0.mk (And.intro hs hb); clear hs hb hg))
  go_ret
  exact ⟨_, rfl, HF.out.1, HF.out.2⟩
theorem put_calls (base : Nat) (A : Option Addr) (c0 : Nat) (l : List S49) (c : Int) (w : World) (hS : Kd.S k49 49 w base (fun _ => True) (.slice A l.length c0) l) (hbs : base ≤ w.heap.size) (hn : l.length < 1099511627776) (hm : (lastT l).f1.length < 1099511627776) :
    Calls Try.prog 23 #[.slice A l.length c0, .int .i32 c] w fun e w' => ∃ v, e = .returned v ∧ Kd.S k49 49 w' base (fun _ => True) v (putP l c) ∧ Below base w w' := by
  unfold putP
  by_cases h : 0 < l.length ∧ (lastT l).f0 = 1
  · rw [if_pos h]
    exact put_old base A c0 l c w hS hbs hn hm h.1 h.2
  · rw [if_neg h]
    exact put_new base A c0 l c w hS hbs hn h
end Go.Proofs.Ytfgccmgfkfhfcaa.PAll
