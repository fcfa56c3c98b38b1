/- The memory of a resolver, as it goes over commands: its row of commands, the places that are open, the labels. -/
import Derived.Test.YtgennlcbmepchaaExtLaws
namespace Go.Proofs.Ytgennlcbmepchaa.PAll
open Go.RowKit Go.Proofs.YtgennlcbmepchaaW.PrintWords Go.Proofs.YtgennlcbmepchaaW.PrintLast Go.Proofs.YtgennlcbmepchaaW.PrintMore

/-- w1: the world behind Clone. gb: the row's block; g: the resolver's; bm: the labels'. -/
structure Mem (w0 w1 : World) (gb g bm n cap : Nat) (rows : List (List Value)) (op : List Int) (nd : Nat) (D : DataW Unit) (w : World) : Prop where
  bel : Below w0.heap.size w0 w
  keep : KeepBut w1 w gb none
  len : rows.length = n
  row : ∃ cur, w.heap[gb]? = some (.cells cur 32 (0, 0)) ∧ cur.size = cap * 28 ∧ ∀ j c, rows[j]? = some c → c.length = 28 ∧ (∀ v ∈ c, v.oneCell' = true) ∧ ∀ i u, c[i]? = some u → cur[j * 28 + i]? = some u
  st : ∃ vo, w.heap[g]? = some (.cells #[.slice (some ⟨gb, 0, none⟩) n cap, vo, .map (some bm)] 49 (0, 0)) ∧ (Kd.int .i64).R 3 w w1.heap.size (fun _ => True) vo op
  map : w.ownsMap Try.prog 9 (plainElem Try.prog 3) bm nd D
  lg : w1.heap.size ≤ g
  lm : w1.heap.size ≤ bm
  lb : gb < w1.heap.size
  l0 : w0.heap.size ≤ gb
  lc : n ≤ cap
  lx : cap ≤ maxLen

section
variable {w0 w1 w : World} {gb g bm n cap nd : Nat} {rows : List (List Value)} {op : List Int} {D : DataW Unit}

theorem Mem.lt_g (h : Mem w0 w1 gb g bm n cap rows op nd D w) : g < w.heap.size := by
  obtain ⟨vo, hb, _⟩ := h.st
  exact (Array.getElem?_eq_some_iff.1 hb).1
theorem Mem.lt_m (h : Mem w0 w1 gb g bm n cap rows op nd D w) : bm < w.heap.size := h.map.lt
theorem Mem.lt_b (h : Mem w0 w1 gb g bm n cap rows op nd D w) : gb < w.heap.size := Nat.lt_of_lt_of_le h.lb h.keep.1
theorem Mem.ne_gm (h : Mem w0 w1 gb g bm n cap rows op nd D w) : g ≠ bm := by
  rintro rfl
  obtain ⟨vo, hb, _⟩ := h.st
  obtain ⟨es, cl, hm, _⟩ := h.map
  rw [hb] at hm
  cases hm
theorem Mem.vo_lt {vo : Value} (hR : (Kd.int .i64).R 3 w w1.heap.size (fun _ => True) vo op) : ∀ k, vo.ownBlock = some k → w1.heap.size ≤ k ∧ k < w.heap.size ∧ ∃ cells, w.heap[k]? = some (.cells cells 3 (0, 0)) :=
  fun k hk => ⟨Kd.R_base hR k hk, Kd.R_lt hR k hk, Kd.R_typed hR k hk⟩

/-- Nothing of it has turned. -/
theorem Mem.step (h : Mem w0 w1 gb g bm n cap rows op nd D w) {w' : World} (hb : Below w.heap.size w w') : Mem w0 w1 gb g bm n cap rows op nd D w' := by
  have hg := h.lt_g; have hm := h.lt_m; have hbb := h.lt_b
  obtain ⟨cur, hc, hs, hr⟩ := h.row
  obtain ⟨vo, hv, hR⟩ := h.st
  exact { bel := h.bel.trans (hb.mono h.bel.size)
          keep := ⟨Nat.le_trans h.keep.1 hb.size, fun i hi h1 h2 => (hb.block i (Nat.lt_of_lt_of_le hi h.keep.1)).trans (h.keep.2 i hi h1 h2)⟩
          len := h.len
          row := ⟨cur, (hb.block gb hbb).trans hc, hs, hr⟩
          st := ⟨vo, (hb.block g hg).trans hv, Kd.R_below hR hb⟩
          map := h.map.kept (row := none) ⟨hb.os, hb.tape, hb.output, hb.size, fun k hk _ => hb.block k hk⟩ (by simp)
          lg := h.lg, lm := h.lm, lb := h.lb, l0 := h.l0, lc := h.lc, lx := h.lx }

theorem Mem.c0 (h : Mem w0 w1 gb g bm n cap rows op nd D w) : w.cell? ⟨g, 0, none⟩ = some (.slice (some ⟨gb, 0, none⟩) n cap) := by
  obtain ⟨vo, hv, _⟩ := h.st
  simp [World.cell?, hv]
theorem Mem.c1 (h : Mem w0 w1 gb g bm n cap rows op nd D w) : ∃ vo, w.cell? ⟨g, 1, none⟩ = some vo ∧ (Kd.int .i64).R 3 w w1.heap.size (fun _ => True) vo op := by
  obtain ⟨vo, hv, hR⟩ := h.st
  exact ⟨vo, by simp [World.cell?, hv], hR⟩
theorem Mem.c2 (h : Mem w0 w1 gb g bm n cap rows op nd D w) : w.cell? ⟨g, 2, none⟩ = some (.map (some bm)) := by
  obtain ⟨vo, hv, _⟩ := h.st
  simp [World.cell?, hv]
theorem Mem.fz (h : Mem w0 w1 gb g bm n cap rows op nd D w) (j : Nat) : w.frozen? ⟨g, j, none⟩ = false := by
  obtain ⟨vo, hv, _⟩ := h.st
  simp [World.frozen?, hv]
theorem Mem.fzb (h : Mem w0 w1 gb g bm n cap rows op nd D w) (j : Nat) : w.frozen? ⟨gb, j, none⟩ = false := by
  obtain ⟨vo, hv, _⟩ := h.row
  simp [World.frozen?, hv]
/-- A command's cells. -/
theorem Mem.elem (h : Mem w0 w1 gb g bm n cap rows op nd D w) {j : Nat} (hj : j < n) : ∃ c, rows[j]? = some c ∧ c.length = 28 ∧ (∀ v ∈ c, v.oneCell' = true) ∧ ∀ i u, c[i]? = some u → w.cell? ⟨gb, j * 28 + i, none⟩ = some u := by
  obtain ⟨cur, hc, hs, hr⟩ := h.row
  have hl : j < rows.length := by rw [h.len]; exact hj
  obtain ⟨h1, h3, h2⟩ := hr j _ (List.getElem?_eq_getElem hl)
  exact ⟨rows[j], List.getElem?_eq_getElem hl, h1, h3, fun i u hu => by simp [World.cell?, hc, h2 i u hu]⟩

/-- A command's Jump is written. -/
theorem Mem.put (h : Mem w0 w1 gb g bm n cap rows op nd D w) {j : Nat} {c : List Value} (hj : rows[j]? = some c) (u : Value) (hu : u.oneCell' = true) : Mem w0 w1 gb g bm n cap (rows.set j (c.set 26 u)) op nd D (w.setCell ⟨gb, j * 28 + 26, none⟩ u) := by
  have hg := h.lt_g; have hm := h.lt_m; have hbb := h.lt_b
  have n1 : g ≠ gb := by have := h.lg; have := h.lb; omega
  have n2 : bm ≠ gb := by have := h.lm; have := h.lb; omega
  have hjl : j < rows.length := (List.getElem?_eq_some_iff.1 hj).1
  obtain ⟨cur, hc, hs, hr⟩ := h.row
  obtain ⟨vo, hv, hR⟩ := h.st
  obtain ⟨hcl, hco, hcc⟩ := hr j c hj
  refine { bel := h.bel.setCell (p := ⟨gb, _, none⟩) h.l0 u, keep := ⟨by simpa [World.setCell] using h.keep.1, fun i hi h1 h2 => (Below.heap_setCell w ⟨gb, _, none⟩ u i h1).trans (h.keep.2 i hi h1 h2)⟩, len := by rw [List.length_set]; exact h.len, row := ⟨cur.setIfInBounds (j * 28 + 26) u, ?_, by simpa using hs, ?_⟩, st := ⟨vo, (Below.heap_setCell w ⟨gb, _, none⟩ u g n1).trans hv, ?_⟩, map := h.map.setCell n2 u, lg := h.lg, lm := h.lm, lb := h.lb, l0 := h.l0, lc := h.lc, lx := h.lx }
  · simp [World.setCell, Array.getElem?_modify, hc]
  · intro j' c' hj'
    by_cases e : j' = j
    · subst e
      have : c' = c.set 26 u := by simpa [hjl] using hj'.symm
      subst this
      refine ⟨by simpa using hcl, fun v hv => ?_, fun i v hiv => ?_⟩
      · rcases List.mem_or_eq_of_mem_set hv with h1 | h1
        · exact hco v h1
        · rw [h1]; exact hu
      by_cases ei : i = 26
      · subst ei
        have hv' : u = v := by simpa [hcl] using hiv
        subst hv'
        have : j' * 28 + 26 < cur.size := by rw [hs]; have := h.len; have := h.lc; omega
        simp [this]
      · rw [List.getElem?_set_ne (by omega)] at hiv
        rw [Array.getElem?_setIfInBounds_ne (by omega)]
        exact hcc i v hiv
    · rw [List.getElem?_set_ne (by omega)] at hj'
      obtain ⟨h1, h3, h2⟩ := hr j' c' hj'
      refine ⟨h1, h3, fun i v hiv => ?_⟩
      have hi : i < 28 := by have := (List.getElem?_eq_some_iff.1 hiv).1; omega
      rw [Array.getElem?_setIfInBounds_ne (by omega)]
      exact h2 i v hiv
  · refine Kd.R_set hR hc (fun q hq => ?_) _ _
    simp [Kd.int, Kd.scalar] at hq
    omega

/-- The places that are open are others now: their row has been written, or is new. -/
theorem Mem.opened (h : Mem w0 w1 gb g bm n cap rows op nd D w) {vo : Value} (hR0 : (Kd.int .i64).R 3 w w1.heap.size (fun _ => True) vo op) {w2 : World} {vo2 : Value} {op2 : List Int} (hg : w.grownBy w2 vo.ownBlock)
    (hR : (Kd.int .i64).R 3 w2 w1.heap.size (fun _ => True) vo2 op2) : Mem w0 w1 gb g bm n cap rows op2 nd D (w2.setCell ⟨g, 1, none⟩ vo2) := by
  have hlg := h.lt_g; have hm := h.lt_m; have hbb := h.lt_b
  have n1 : gb ≠ g := by have := h.lg; have := h.lb; omega
  have n2 : bm ≠ g := h.ne_gm.symm
  obtain ⟨cur, hc, hs, hr⟩ := h.row
  obtain ⟨vo', hv, _⟩ := h.st
  have hvl := Mem.vo_lt hR0
  have x1 : some gb ≠ vo.ownBlock := fun e => by have := (hvl gb e.symm).1; have := h.lb; omega
  have x2 : some g ≠ vo.ownBlock := fun e => by obtain ⟨_, _, cells, hx⟩ := hvl g e.symm; rw [hv] at hx; simp at hx
  have x3 : some bm ≠ vo.ownBlock := fun e => by
    obtain ⟨_, _, cells, hx⟩ := hvl bm e.symm
    obtain ⟨es, cl, hmm, _⟩ := h.map
    rw [hmm] at hx
    cases hx
  have hgg : w2.heap[g]? = some (.cells #[.slice (some ⟨gb, 0, none⟩) n cap, vo', .map (some bm)] 49 (0, 0)) := (hg.block g hlg x2).trans hv
  have l01 : w0.heap.size ≤ w1.heap.size := by have := h.l0; have := h.lb; omega
  refine { bel := (h.bel.grown hg h.bel.size (fun k hk => by have := (hvl k hk).1; omega)).setCell (p := ⟨g, 1, none⟩) (by have := h.lg; simp; omega) vo2, keep := ⟨Nat.le_trans h.keep.1 (by simpa [World.setCell] using hg.size), fun i hi h1 h2 => ?_⟩, len := h.len, row := ⟨cur, (Below.heap_setCell w2 ⟨g, 1, none⟩ vo2 gb n1).trans ((hg.block gb hbb x1).trans hc), hs, hr⟩, st := ⟨vo2, ?_, ?_⟩, map := (h.map.kept hg x3).setCell n2 vo2, lg := h.lg, lm := h.lm, lb := h.lb, l0 := h.l0, lc := h.lc, lx := h.lx }
  · have hig : i ≠ g := by have := h.lg; omega
    have hiv : some i ≠ vo.ownBlock := fun e => by have := (hvl i e.symm).1; omega
    exact (Below.heap_setCell w2 ⟨g, 1, none⟩ vo2 i hig).trans ((hg.block i (Nat.lt_of_lt_of_le hi h.keep.1) hiv).trans (h.keep.2 i hi h1 h2))
  · simp [World.setCell, Array.getElem?_modify, hgg]
  · refine Kd.R_set hR hgg (fun q hq => ?_) _ _
    simp [Kd.int, Kd.scalar] at hq
    omega

/-- A label has been put. -/
theorem Mem.put_label (h : Mem w0 w1 gb g bm n cap rows op nd D w) {w2 : World} {nd2 : Nat} {D2 : DataW Unit} (hg : w.grownBy w2 (some bm)) (hm2 : w2.ownsMap Try.prog 9 (plainElem Try.prog 3) bm nd2 D2) : Mem w0 w1 gb g bm n cap rows op nd2 D2 w2 := by
  have hlg := h.lt_g; have hm := h.lt_m; have hbb := h.lt_b
  have n1 : gb ≠ bm := by have := h.lm; have := h.lb; omega
  have n2 : g ≠ bm := h.ne_gm
  obtain ⟨cur, hc, hs, hr⟩ := h.row
  obtain ⟨vo, hv, hR⟩ := h.st
  have l01 : w0.heap.size ≤ w1.heap.size := by have := h.l0; have := h.lb; omega
  refine { bel := h.bel.grown hg h.bel.size (fun k hk => by cases hk; have := h.lm; omega), keep := ⟨Nat.le_trans h.keep.1 hg.size, fun i hi h1 h2 => ?_⟩, len := h.len, row := ⟨cur, (hg.block gb hbb (by simpa using n1)).trans hc, hs, hr⟩, st := ⟨vo, (hg.block g hlg (by simpa using n2)).trans hv, ?_⟩, map := hm2, lg := h.lg, lm := h.lm, lb := h.lb, l0 := h.l0, lc := h.lc, lx := h.lx }
  · have hib : i ≠ bm := by have := h.lm; omega
    exact (hg.block i (Nat.lt_of_lt_of_le hi h.keep.1) (by simpa using hib)).trans (h.keep.2 i hi h1 h2)
  · refine Kd.R_grown2 hR rfl hg (fun k hk e => ?_)
    cases hk
    obtain ⟨_, _, cells, hx⟩ := Mem.vo_lt hR bm e.symm
    obtain ⟨es, cl, hmm, _⟩ := h.map
    rw [hmm] at hx
    cases hx
end
end Go.Proofs.Ytgennlcbmepchaa.PAll
