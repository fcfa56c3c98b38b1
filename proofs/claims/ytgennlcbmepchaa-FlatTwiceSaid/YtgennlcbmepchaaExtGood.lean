/- Laws on Resolve in plain Lean: what is resolved leads into the script, or to its end. -/
import Derived.Test.YtgennlcbmepchaaExtPure2
namespace Go.Proofs.Ytgennlcbmepchaa.PAll

/-- What holds behind the first k commands of noting. -/
structure Noted (l : List S32) (k : Nat) (s : JSt) : Prop where
  opn : ∀ q ∈ s.op, q < k ∧ (at32 l q).f3 = 123 ∧ s.J q = -1
  asc : s.op.Pairwise (· < ·)
  shut : ∀ i, i < k → (at32 l i).f3 = 123 → i ∉ s.op → ∃ m : Nat, s.J i = m ∧ i < m ∧ m < k ∧ (at32 l m).f3 = 125 ∧ ∀ j, i < j → j < m → (at32 l j).f3 = 123 → j ∉ s.op ∧ s.J j < m
  zero : ∀ i, (at32 l i).f3 ≠ 123 ∨ k ≤ i → s.J i = 0
  lab : ∀ p ∈ s.lb, ∃ m : Nat, m < k ∧ p.2 = m ∧ (at32 l m).f3 = 58 ∧ (at32 l m).f5 = p.1
theorem Noted.start (l : List S32) : Noted l 0 js0 :=
  ⟨fun q h => (by cases h), List.Pairwise.nil, fun i h => (by omega), fun i _ => rfl, fun p h => (by cases h)⟩
theorem Noted.last {l : List S32} {k : Nat} {s : JSt} {q : Nat} (h : Noted l k s) (hq : s.op.getLast? = some q) : s.op = s.op.dropLast ++ [q] ∧ q ∈ s.op ∧ (∀ j ∈ s.op.dropLast, j < q) := by
  have e : s.op = s.op.dropLast ++ [q] := by
    have hne : s.op ≠ [] := fun e => by rw [e] at hq; cases hq
    have := List.dropLast_concat_getLast hne
    rw [List.getLast?_eq_some_getLast hne] at hq
    rw [← Option.some.inj hq]
    exact this.symm
  refine ⟨e, by rw [e]; simp, fun j hj => ?_⟩
  have ha := h.asc
  rw [e] at ha
  exact (List.pairwise_append.mp ha).2.2 j hj q (by simp)
theorem Noted.step {l : List S32} {k : Nat} {s r : JSt} (h : Noted l k s) (hn : noteJ l s k = .ok r) : Noted l (k + 1) r := by
  unfold noteJ at hn
  split at hn
  · rename_i h3
    cases hn
    refine ⟨fun q hq => ?_, ?_, fun i hi h1 h2 => ?_, fun i hi => ?_, fun p hp => ?_⟩
    · rcases List.mem_append.mp hq with hq | hq
      · obtain ⟨a, b, c⟩ := h.opn q hq
        exact ⟨by omega, b, (upd_other _ (by omega) _).trans c⟩
      · obtain rfl := List.mem_singleton.mp hq
        exact ⟨by omega, h3, upd_same _ _ _⟩
    · refine List.pairwise_append.mpr ⟨h.asc, List.pairwise_singleton _ _, fun a ha b hb => ?_⟩
      obtain rfl := List.mem_singleton.mp hb
      exact (h.opn a ha).1
    · have hik : i ≠ k := fun e => h2 (List.mem_append.mpr (.inr (by rw [e]; simp)))
      obtain ⟨m, a, b, c, d, e⟩ := h.shut i (by omega) h1 (fun q => h2 (List.mem_append.mpr (.inl q)))
      refine ⟨m, (upd_other _ hik _).trans a, b, by omega, d, fun j j1 j2 j3 => ?_⟩
      obtain ⟨x, y⟩ := e j j1 j2 j3
      refine ⟨fun q => ?_, by show upd s.J k (-1) j < m; rw [upd_other _ (by omega)]; exact y⟩
      rcases List.mem_append.mp q with q | q
      · exact x q
      · have := List.mem_singleton.mp q
        omega
    · have hik : i ≠ k := fun e => by
        subst e
        rcases hi with hi | hi
        · exact hi h3
        · omega
      exact (upd_other _ hik _).trans (h.zero i (hi.imp id (fun h => by omega)))
    · obtain ⟨m, a, b⟩ := h.lab p hp
      exact ⟨m, by omega, b⟩
  · split at hn
    · rename_i h3 h4
      split at hn
      · cases hn
      · rename_i q hq
        cases hn
        obtain ⟨e0, hqm, hlt⟩ := h.last hq
        obtain ⟨q1, q2, q3⟩ := h.opn q hqm
        have hsub : ∀ j, j ∈ s.op.dropLast → j ∈ s.op := fun j hj => by rw [e0]; exact List.mem_append.mpr (.inl hj)
        refine ⟨fun j hj => ?_, ?_, fun i hi h1 h2 => ?_, fun i hi => ?_, fun p hp => ?_⟩
        · obtain ⟨a, b, c⟩ := h.opn j (hsub j hj)
          have := hlt j hj
          exact ⟨by omega, b, (upd_other _ (by omega) _).trans c⟩
        · have ha := h.asc
          rw [e0] at ha
          exact (List.pairwise_append.mp ha).1
        · by_cases hiq : i = q
          · subst hiq
            refine ⟨k, upd_same _ _ _, by omega, by omega, h4, fun j j1 j2 j3 => ?_⟩
            have hj : j ∉ s.op := fun hj => by
              rw [e0] at hj
              rcases List.mem_append.mp hj with hj | hj
              · have := hlt j hj; omega
              · have := List.mem_singleton.mp hj; omega
            obtain ⟨m, a, b, c, _⟩ := h.shut j (by omega) j3 hj
            refine ⟨fun q => hj (hsub j q), ?_⟩
            show upd s.J i k j < k
            rw [upd_other _ (by omega), a]
            omega
          · have hik : i ≠ k := fun e => by subst e; exact h3 h1
            have hi2 : i ∉ s.op := fun hj => by
              rw [e0] at hj
              rcases List.mem_append.mp hj with hj | hj
              · exact h2 hj
              · exact hiq (List.mem_singleton.mp hj)
            obtain ⟨m, a, b, c, d, e⟩ := h.shut i (by omega) h1 hi2
            refine ⟨m, (upd_other _ hiq _).trans a, b, by omega, d, fun j j1 j2 j3 => ?_⟩
            obtain ⟨x, y⟩ := e j j1 j2 j3
            have hjq : j ≠ q := fun e => by subst e; exact x hqm
            exact ⟨fun q => x (hsub j q), by show upd s.J q k j < m; rw [upd_other _ hjq]; exact y⟩
        · have hiq : i ≠ q := fun e => by
            subst e
            rcases hi with hi | hi
            · exact hi q2
            · omega
          exact (upd_other _ hiq _).trans (h.zero i (hi.imp id (fun h => by omega)))
        · obtain ⟨m, a, b⟩ := h.lab p hp
          exact ⟨m, by omega, b⟩
    · have keep : ∀ lb, (∀ p ∈ lb, ∃ m : Nat, m < k + 1 ∧ p.2 = (m : Int) ∧ (at32 l m).f3 = 58 ∧ (at32 l m).f5 = p.1) → ¬ (at32 l k).f3 = 123 → Noted l (k + 1) ⟨s.J, s.op, lb⟩ := by
        intro lb hlb h3
        refine ⟨fun q hq => ?_, h.asc, fun i hi h1 h2 => ?_, fun i hi => ?_, hlb⟩
        · obtain ⟨a, b, c⟩ := h.opn q hq
          exact ⟨by omega, b, c⟩
        · have hik : i ≠ k := fun e => by subst e; exact h3 h1
          obtain ⟨m, a, b, c, d, e⟩ := h.shut i (by omega) h1 h2
          exact ⟨m, a, b, by omega, d, e⟩
        · exact h.zero i (hi.imp id (fun h => by omega))
      rename_i h3 h4
      split at hn
      · rename_i h5
        split at hn
        · cases hn
        · cases hn
          refine keep _ (fun p hp => ?_) h3
          rcases List.mem_append.mp hp with hp | hp
          · obtain ⟨m, a, b⟩ := h.lab p hp
            exact ⟨m, by omega, b⟩
          · obtain rfl := List.mem_singleton.mp hp
            exact ⟨k, by omega, rfl, h5, rfl⟩
      · cases hn
        exact keep s.lb (fun p hp => by obtain ⟨m, a, b⟩ := h.lab p hp; exact ⟨m, by omega, b⟩) h3
theorem Noted.all {l : List S32} : ∀ (d k : Nat) {s r : JSt}, Noted l k s → notesJ l d s k = .ok r → Noted l (k + d) r
  | 0, k, s, r, h, hn => by cases hn; exact h
  | d + 1, k, s, r, h, hn => by
    simp only [notesJ] at hn
    split at hn
    · cases hn
    · rename_i s' hs
      have := Noted.all d (k + 1) (h.step hs) hn
      rwa [show k + 1 + d = k + (d + 1) by omega] at this
theorem getLab_from {s : ByteArray} : ∀ (lb : List (ByteArray × Int)) (a : Int), (lb.foldl (fun a p => if p.1 = s then p.2 else a) a = a ∧ hasLab lb s = false) ∨ ∃ p ∈ lb, p.1 = s ∧ lb.foldl (fun a p => if p.1 = s then p.2 else a) a = p.2
  | [], a => .inl ⟨rfl, rfl⟩
  | p :: lb, a => by
    simp only [List.foldl_cons]
    rcases getLab_from lb (if p.1 = s then p.2 else a) with ⟨h, h2⟩ | ⟨q, hq, h1, h2⟩
    · by_cases hp : p.1 = s
      · exact .inr ⟨p, by simp, hp, by rw [h, if_pos hp]⟩
      · left
        refine ⟨by rw [h, if_neg hp], ?_⟩
        unfold hasLab at h2 ⊢
        simp only [List.any_cons, h2, Bool.or_false]
        exact decide_eq_false hp
    · exact .inr ⟨q, by simp [hq], h1, h2⟩
theorem getLab_mem {lb : List (ByteArray × Int)} {s : ByteArray} (h : hasLab lb s = true) : ∃ p ∈ lb, p.1 = s ∧ getLab lb s = p.2 := by
  rcases getLab_from (s := s) lb 0 with ⟨_, h2⟩ | h2
  · rw [h] at h2; cases h2
  · exact h2
/-- Where the command at place j leads once it is led. -/
def Led (l : List S32) (lb : List (ByteArray × Int)) (J J' : Nat → Int) (j : Nat) : Prop :=
  ((at32 l j).f3 = 123 → J' j = J j ∧ 0 ≤ J j) ∧
  ((at32 l j).f3 = 98 ∨ (at32 l j).f3 = 116 → ((at32 l j).f5.toList.isEmpty = true → J' j = l.length) ∧ ((at32 l j).f5.toList.isEmpty = false → hasLab lb (at32 l j).f5 = true ∧ J' j = getLab lb (at32 l j).f5)) ∧
  ((at32 l j).f3 ≠ 123 → (at32 l j).f3 ≠ 98 → (at32 l j).f3 ≠ 116 → J' j = J j)
theorem leadJ_led {l : List S32} {lb : List (ByteArray × Int)} {J J' : Nat → Int} {i : Nat} (h : leadJ l lb J i = .ok J') : Led l lb J J' i ∧ ∀ j, j ≠ i → J' j = J j := by
  unfold leadJ at h
  unfold Led
  split at h
  · rename_i h3
    split at h
    · cases h
    · rename_i h4
      cases h
      exact ⟨⟨fun _ => ⟨rfl, by omega⟩, fun h => by omega, fun h => absurd h3 h⟩, fun _ _ => rfl⟩
  · rename_i h3
    split at h
    · rename_i h4
      split at h
      · rename_i h5
        cases h
        exact ⟨⟨fun h => absurd h h3, fun _ => ⟨fun _ => upd_same _ _ _, fun h => by rw [h5] at h; cases h⟩, fun _ h1 h2 => absurd h4 (by omega)⟩, fun j hj => upd_other _ hj _⟩
      · rename_i h5
        split at h
        · rename_i h6
          cases h
          exact ⟨⟨fun h => absurd h h3, fun _ => ⟨fun h => absurd h h5, fun _ => ⟨h6, upd_same _ _ _⟩⟩, fun _ h1 h2 => absurd h4 (by omega)⟩, fun j hj => upd_other _ hj _⟩
        · cases h
    · rename_i h4
      cases h
      exact ⟨⟨fun h => absurd h h3, fun h => absurd h h4, fun _ _ _ => rfl⟩, fun _ _ => rfl⟩
theorem leadsJ_led {l : List S32} {lb : List (ByteArray × Int)} : ∀ (d i : Nat) {J J' : Nat → Int}, leadsJ l lb d J i = .ok J' → (∀ j, i ≤ j → j < i + d → Led l lb J J' j) ∧ ∀ j, j < i ∨ i + d ≤ j → J' j = J j
  | 0, i, J, J', h => by cases h; exact ⟨fun j h1 h2 => by omega, fun _ _ => rfl⟩
  | d + 1, i, J, J', h => by
    simp only [leadsJ] at h
    split at h
    · cases h
    · rename_i r hr
      obtain ⟨a, b⟩ := leadJ_led hr
      obtain ⟨c, e⟩ := leadsJ_led d (i + 1) h
      refine ⟨fun j h1 h2 => ?_, fun j hj => by rw [e j (by omega), b j (by omega)]⟩
      by_cases hj : j = i
      · subst hj
        have := e j (by omega)
        unfold Led at a ⊢
        rw [this]
        exact a
      · have := c j (by omega) (by omega)
        unfold Led at this ⊢
        rw [b j hj] at this
        exact this
/-- What is resolved leads into the script, or to its end. -/
structure Leads (xs : List S32) : Prop where
  blk : ∀ i, i < xs.length → (at32 xs i).f3 = 123 → ∃ m : Nat, (at32 xs i).f15 = m ∧ i < m ∧ m < xs.length ∧ (at32 xs m).f3 = 125 ∧ ∀ j, i < j → j < m → (at32 xs j).f3 = 123 → (at32 xs j).f15 < m
  stop : ∀ i, i < xs.length → ((at32 xs i).f3 = 98 ∨ (at32 xs i).f3 = 116) → (at32 xs i).f5.toList.isEmpty = true → (at32 xs i).f15 = xs.length
  jump : ∀ i, i < xs.length → ((at32 xs i).f3 = 98 ∨ (at32 xs i).f3 = 116) → (at32 xs i).f5.toList.isEmpty = false → ∃ m : Nat, (at32 xs i).f15 = m ∧ m < xs.length ∧ (at32 xs m).f3 = 58 ∧ (at32 xs m).f5 = (at32 xs i).f5
  none : ∀ i, i < xs.length → (at32 xs i).f3 ≠ 123 → (at32 xs i).f3 ≠ 98 → (at32 xs i).f3 ≠ 116 → (at32 xs i).f15 = 0
/-- Either an error, and nothing; or all leads somewhere. -/
theorem noteJ_ne {l : List S32} {s : JSt} {i : Nat} {e : Int} (h : noteJ l s i = .error e) : e ≠ 0 := by
  unfold noteJ at h
  split at h
  · cases h
  · split at h
    · split at h
      · cases h; decide
      · cases h
    · split at h
      · split at h
        · cases h; decide
        · cases h
      · cases h
theorem leadJ_ne {l : List S32} {lb : List (ByteArray × Int)} {J : Nat → Int} {i : Nat} {e : Int} (h : leadJ l lb J i = .error e) : e ≠ 0 := by
  unfold leadJ at h
  split at h
  · split at h
    · cases h; decide
    · cases h
  · split at h
    · split at h
      · cases h
      · split at h
        · cases h
        · cases h; decide
    · cases h
theorem notesJ_ne {l : List S32} : ∀ (d : Nat) {s : JSt} {i : Nat} {e p : Int}, notesJ l d s i = .error (e, p) → e ≠ 0
  | 0, s, i, e, p, h => by cases h
  | d + 1, s, i, e, p, h => by
    simp only [notesJ] at h
    split at h
    · rename_i x hx
      cases h
      exact noteJ_ne hx
    · exact notesJ_ne d h
theorem leadsJ_ne {l : List S32} {lb : List (ByteArray × Int)} : ∀ (d : Nat) {J : Nat → Int} {i : Nat} {e p : Int}, leadsJ l lb d J i = .error (e, p) → e ≠ 0
  | 0, J, i, e, p, h => by cases h
  | d + 1, J, i, e, p, h => by
    simp only [leadsJ] at h
    split at h
    · rename_i x hx
      cases h
      exact leadJ_ne hx
    · exact leadsJ_ne d h
theorem resolve_leads (l : List S32) : (∃ e p, e ≠ 0 ∧ resolveP l = ([], e, p)) ∨ ∃ J, resolveP l = (mkL l J, 0, 0) ∧ Leads (mkL l J) := by
  rcases resolve_cases l with ⟨e, p, h, hr⟩ | ⟨s, e, p, _, h, hr⟩ | ⟨s, J, hn, hl, hr⟩
  · exact .inl ⟨e, p, notesJ_ne _ h, hr⟩
  · exact .inl ⟨e, p, leadsJ_ne _ h, hr⟩
  · refine .inr ⟨J, hr, ?_⟩
    have hN := Noted.all l.length 0 (Noted.start l) hn
    rw [Nat.zero_add] at hN
    obtain ⟨hL, _⟩ := leadsJ_led l.length 0 hl
    have hlen := mkL_length l J
    have h3 : ∀ i, i < l.length → (at32 (mkL l J) i).f3 = (at32 l i).f3 := fun i hi => by rw [mkL_at J hi]; rfl
    have h5 : ∀ i, i < l.length → (at32 (mkL l J) i).f5 = (at32 l i).f5 := fun i hi => by rw [mkL_at J hi]; rfl
    have h15 : ∀ i, i < l.length → (at32 (mkL l J) i).f15 = J i := fun i hi => by rw [mkL_at J hi]; rfl
    have led : ∀ i, i < l.length → Led l s.lb s.J J i := fun i hi => hL i (Nat.zero_le _) (by omega)
    have isShut : ∀ i, i < l.length → (at32 l i).f3 = 123 → i ∉ s.op := fun i hi hb hm => by
      have := (led i hi).1 hb
      have := (hN.opn i hm).2.2
      omega
    refine ⟨fun i hi hb => ?_, fun i hi ho he => ?_, fun i hi ho he => ?_, fun i hi h1 h2 h4 => ?_⟩
    · rw [hlen] at hi ⊢
      rw [h3 i hi] at hb
      obtain ⟨m, a, b, c, d, e⟩ := hN.shut i hi hb (isShut i hi hb)
      refine ⟨m, by rw [h15 i hi, ((led i hi).1 hb).1]; exact a, b, c, by rw [h3 m c]; exact d, fun j j1 j2 j3 => ?_⟩
      rw [h3 j (by omega)] at j3
      rw [h15 j (by omega), ((led j (by omega)).1 j3).1]
      exact (e j j1 j2 j3).2
    · rw [hlen] at hi ⊢
      rw [h3 i hi] at ho
      rw [h5 i hi] at he
      rw [h15 i hi]
      exact ((led i hi).2.1 ho).1 he
    · rw [hlen] at hi ⊢
      rw [h3 i hi] at ho
      rw [h5 i hi] at he ⊢
      obtain ⟨a, b⟩ := ((led i hi).2.1 ho).2 he
      obtain ⟨p, hp, h1, h2⟩ := getLab_mem a
      obtain ⟨m, c, d, e, f⟩ := hN.lab p hp
      refine ⟨m, by rw [h15 i hi, b, h2, d], c, by rw [h3 m c]; exact e, by rw [h5 m c, f, h1]⟩
    · rw [hlen] at hi
      rw [h3 i hi] at h1 h2 h4
      rw [h15 i hi, (led i hi).2.2 h1 h2 h4]
      exact hN.zero i (.inl h1)
end Go.Proofs.Ytgennlcbmepchaa.PAll
