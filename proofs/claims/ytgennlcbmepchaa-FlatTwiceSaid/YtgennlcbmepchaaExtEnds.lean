/- How the resolver's memory begins, behind Clone, and what it is good for at the end. -/
import Derived.Test.YtgennlcbmepchaaExtStep
namespace Go.Proofs.Ytgennlcbmepchaa.PAll
open Go.RowKit Go.Maps Go.WideMaps Go.Proofs.YtgennlcbmepchaaW.PrintWords Go.Proofs.YtgennlcbmepchaaW.PrintLast Go.Proofs.YtgennlcbmepchaaW.PrintMore

theorem N_start {P0 : Nat → Prop} {w0 w1 : World} {v1 : Value} {l0 : List S32} (h : Kd.N k32 32 w1 w0.heap.size (fun k => P0 k ∨ w0.heap.size ≤ k) v1 l0) (hp : 0 < l0.length) :
    ∃ gb cap rows cur, v1 = .slice (some ⟨gb, 0, none⟩) l0.length cap ∧ w0.heap.size ≤ gb ∧ gb < w1.heap.size ∧ l0.length ≤ cap ∧ cap ≤ maxLen ∧ w1.heap[gb]? = some (.cells cur 32 (0, 0)) ∧ cur.size = cap * 28 ∧
      (∀ (j : Nat) (c : List Value), rows[j]? = some c → c.length = 28 ∧ (∀ v ∈ c, v.oneCell' = true) ∧ ∀ (i : Nat) (u : Value), c[i]? = some u → cur[j * 28 + i]? = some u) ∧ RowsOf P0 w0 w1 gb l0 rows := by
  obtain ⟨h0, rows, hl, hR, hf⟩ := h
  obtain ⟨_, inner, ho, hr⟩ := hR
  rcases ho.2 with ⟨_, h1⟩ | ⟨gb, cap, cur, hv, hg, hb, h1, h2, h3, h4⟩
  · omega
  · rw [hl] at hv h1 h4
    refine ⟨gb, cap, rows, cur, hv, hg, (Array.getElem?_eq_some_iff.1 hb).1, h1, h2, hb, h3, fun j c hc => ?_, hl, fun j x c hx hc => ?_⟩
    · obtain ⟨e1, e2, e3⟩ := hr.2 j c hc
      subst e1
      have hj : j < l0.length := by have := (List.getElem?_eq_some_iff.1 hc).1; omega
      refine ⟨e2, e3, fun i u hu => ?_⟩
      have hi : i < 28 := by have := (List.getElem?_eq_some_iff.1 hu).1; have e4 : List.length _ = 28 := e2; omega
      rw [List.getElem?_take] at hu
      split at hu
      · rw [List.getElem?_drop, ← h4] at hu
        rw [List.getElem?_take] at hu
        split at hu
        · rw [← Array.getElem?_toList]; exact hu
        · cases hu
      · cases hu
    · have := hf j x c hx hc
      refine Kd.FK_mono this (fun k hk => ⟨hk.1, fun e => hk.2 (by rw [hv, e]; simp [Value.ownBlock])⟩)

theorem Mem_start {w0 w1 : World} {gb n cap : Nat} {rows : List (List Value)} {cur : Array Value} (hB : Below w0.heap.size w0 w1) (h1 : w0.heap.size ≤ gb) (h2 : gb < w1.heap.size) (h3 : n ≤ cap) (h4 : cap ≤ maxLen) (hb : w1.heap[gb]? = some (.cells cur 32 (0, 0))) (hs : cur.size = cap * 28) (hl : rows.length = n)
    (hr : ∀ (j : Nat) (c : List Value), rows[j]? = some c → c.length = 28 ∧ (∀ v ∈ c, v.oneCell' = true) ∧ ∀ (i : Nat) (u : Value), c[i]? = some u → cur[j * 28 + i]? = some u) :
    Mem w0 w1 gb (w1.heap.size + 1) w1.heap.size n cap rows [] 0 (.map []) ((w1.alloc (.map #[] 0)).alloc (.cells #[.slice (some ⟨gb, 0, none⟩) n cap, .slice none 0 0, .map (some w1.heap.size)] 49)) := by
  have hb1 : Below w1.heap.size w1 ((w1.alloc (.map #[] 0)).alloc (.cells #[.slice (some ⟨gb, 0, none⟩) n cap, .slice none 0 0, .map (some w1.heap.size)] 49)) := ((Below.refl _ _).alloc (Nat.le_refl _) _).alloc (by simp) _
  refine { bel := hB.trans (hb1.mono hB.size), keep := KeepBut.of_below hb1 _ _, len := hl, row := ⟨cur, (hb1.block gb h2).trans hb, hs, hr⟩, st := ⟨.slice none 0 0, ?_, Kd.R_nil _ _ _ _ _⟩, map := (World.ownsMap_made w1 _ _ _).alloc _, lg := by omega, lm := Nat.le_refl _, lb := h2, l0 := h1, lc := h3, lx := h4 }
  have := blk_new (w1.alloc (.map #[] 0)) (.cells #[.slice (some ⟨gb, 0, none⟩) n cap, .slice none 0 0, .map (some w1.heap.size)] 49)
  simpa using this

theorem Rel.toN {P0 : Nat → Prop} {w0 w1 w : World} {gb g bm n cap : Nat} {st : RSt} (h : Rel P0 w0 w1 gb g bm n cap st w) : Kd.N k32 32 w w0.heap.size (fun k => P0 k ∨ w0.heap.size ≤ k) (.slice (some ⟨gb, 0, none⟩) st.xs.length cap) st.xs := by
  obtain ⟨rows, hM, hR⟩ := h.ex
  obtain ⟨cur, hb, hs, hr⟩ := hM.row
  have hl := hR.1
  have hn : st.xs.length ≤ cap := by rw [h.len]; exact hM.lc
  have hrl : (cur.toList.take (rows.length * 28)).length = rows.length * 28 := by
    have e9 : cur.toList.length = cap * 28 := by rw [Array.length_toList]; exact hs
    rw [List.length_take, e9]
    omega
  refine ⟨fun k hk => .inr ?_, rows, hl, ⟨fun k hk => hk.symm, cur.toList.take (rows.length * 28), ⟨hrl, .inr ⟨gb, cap, cur, by rw [hl], hM.l0, hb, by rw [hl]; exact hn, hM.lx, hs, rfl⟩⟩, ⟨hrl, fun j c hc => ?_⟩⟩, fun j x c hx hc => ?_⟩
  · have : gb = k := by simpa [Value.ownBlock] using hk
    exact this ▸ hM.l0
  · obtain ⟨e1, e2, e3⟩ := hr j c hc
    have hj : j < rows.length := (List.getElem?_eq_some_iff.1 hc).1
    have : ((cur.toList.take (rows.length * 28)).drop (j * 28)).take 28 = c := by
      apply List.ext_getElem?
      intro i
      by_cases hi : i < 28
      · rw [List.getElem?_take_of_lt hi, List.getElem?_drop, List.getElem?_take_of_lt (by omega), Array.getElem?_toList, e3 i c[i] (List.getElem?_eq_getElem (by omega)), List.getElem?_eq_getElem (by omega)]
      · rw [List.getElem?_eq_none (by rw [List.length_take]; omega), List.getElem?_eq_none (by omega)]
    show ((cur.toList.take (rows.length * 28)).drop (j * 28)).take 28 = c ∧ (((cur.toList.take (rows.length * 28)).drop (j * 28)).take 28).length = 28 ∧ ∀ v ∈ ((cur.toList.take (rows.length * 28)).drop (j * 28)).take 28, v.oneCell' = true
    rw [this]
    exact ⟨rfl, e1, e2⟩
  · refine Kd.FK_mono (Kd.FK_step (Kd.FK_bound (hR.2 j x c hx hc)) (fun k hk hlt => hM.keep.2 k hlt hk.1.2 (by simp))) (fun k hk => ⟨hk.1.1, fun e => hk.1.2 (by simpa [Value.ownBlock] using e)⟩)
end Go.Proofs.Ytgennlcbmepchaa.PAll
