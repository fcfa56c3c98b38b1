import Derived.Test.YtfgccmgfkfhfcaaPAllx6
import Derived.Test.YtfgccmgfkfhfcaaPureX
namespace Go.Proofs.Ytfgccmgfkfhfcaa.Pure
open Go.RowKit Go.Proofs.Ytfgccmgfkfhfcaa.PAll Go.Proofs.YtfgccmgfkfhfcaaW.PrintWords Go.Proofs.YtfgccmgfkfhfcaaW.PrintLast
set_option linter.unusedVariables false
set_option linter.unusedSectionVars false
def textA : Nat → ByteArray
  | 0 => ⟨#[]⟩
  | n + 1 => textA n ++ (⟨#[38, 92, 49, 45]⟩ : ByteArray)
def cellsA : Nat → List Int
  | 0 => []
  | n + 1 => cellsA n ++ [38, 92, 49, 45]
def partsA : Nat → List S49
  | 0 => []
  | n + 1 => partsA n ++ [⟨2, [], 0⟩, ⟨2, [], 1⟩, ⟨1, [45], 0⟩]
def wantA (x : List Int) (fr up : Nat) : Nat → List Int
  | 0 => []
  | n + 1 => wantA x fr up n ++ (x.take up).drop fr ++ x ++ [45]
theorem textA_size (n : Nat) : (textA n).size = 4 * n := by
  induction n with
  | zero => rfl
  | succ n ih => unfold textA; rw [ByteArray.size_append, ih]; show 4 * n + 4 = _; omega
theorem app_mk (a b : Array UInt8) : (⟨a⟩ : ByteArray) ++ (⟨b⟩ : ByteArray) = ⟨a ++ b⟩ := by
  apply ByteArray.ext
  simp [ByteArray.data_append]
theorem lit0 : textA 0 ++ (⟨#[47]⟩ : ByteArray) = ⟨#[47]⟩ := by
  simp only [textA, app_mk]; rfl
theorem ofA_0 : redactorref01_Of.f 40 ⟨#[47]⟩ = some [47] := by kernel_rfl
theorem lit1 : textA 1 ++ (⟨#[47]⟩ : ByteArray) = ⟨#[38, 92, 49, 45, 47]⟩ := by
  simp only [textA, app_mk]; rfl
theorem ofA_1 : redactorref01_Of.f 40 ⟨#[38, 92, 49, 45, 47]⟩ = some [38, 92, 49, 45, 47] := by kernel_rfl
theorem lit2 : textA 2 ++ (⟨#[47]⟩ : ByteArray) = ⟨#[38, 92, 49, 45, 38, 92, 49, 45, 47]⟩ := by
  simp only [textA, app_mk]; rfl
theorem ofA_2 : redactorref01_Of.f 40 ⟨#[38, 92, 49, 45, 38, 92, 49, 45, 47]⟩ = some [38, 92, 49, 45, 38, 92, 49, 45, 47] := by kernel_rfl
theorem lit3 : textA 3 ++ (⟨#[47]⟩ : ByteArray) = ⟨#[38, 92, 49, 45, 38, 92, 49, 45, 38, 92, 49, 45, 47]⟩ := by
  simp only [textA, app_mk]; rfl
theorem ofA_3 : redactorref01_Of.f 40 ⟨#[38, 92, 49, 45, 38, 92, 49, 45, 38, 92, 49, 45, 47]⟩ = some [38, 92, 49, 45, 38, 92, 49, 45, 38, 92, 49, 45, 47] := by kernel_rfl
theorem lit4 : textA 4 ++ (⟨#[47]⟩ : ByteArray) = ⟨#[38, 92, 49, 45, 38, 92, 49, 45, 38, 92, 49, 45, 38, 92, 49, 45, 47]⟩ := by
  simp only [textA, app_mk]; rfl
theorem ofA_4 : redactorref01_Of.f 40 ⟨#[38, 92, 49, 45, 38, 92, 49, 45, 38, 92, 49, 45, 38, 92, 49, 45, 47]⟩ = some [38, 92, 49, 45, 38, 92, 49, 45, 38, 92, 49, 45, 38, 92, 49, 45, 47] := by kernel_rfl
theorem lit5 : textA 5 ++ (⟨#[47]⟩ : ByteArray) = ⟨#[38, 92, 49, 45, 38, 92, 49, 45, 38, 92, 49, 45, 38, 92, 49, 45, 38, 92, 49, 45, 47]⟩ := by
  simp only [textA, app_mk]; rfl
theorem ofA_5 : redactorref01_Of.f 40 ⟨#[38, 92, 49, 45, 38, 92, 49, 45, 38, 92, 49, 45, 38, 92, 49, 45, 38, 92, 49, 45, 47]⟩ = some [38, 92, 49, 45, 38, 92, 49, 45, 38, 92, 49, 45, 38, 92, 49, 45, 38, 92, 49, 45, 47] := by kernel_rfl
theorem ofA (n : Nat) (h : n ≤ 5) : Ev (fun k => redactorref01_Of.f k (textA n ++ (⟨#[47]⟩ : ByteArray))) (cellsA n ++ [47]) :=
  match n, h with
  | 0, _ => Ev.congr (fun k => by rw [lit0]) (Ev.of (redactorref01_Of.mono _) (k := 40) ofA_0)
  | 1, _ => Ev.congr (fun k => by rw [lit1]) (Ev.of (redactorref01_Of.mono _) (k := 40) ofA_1)
  | 2, _ => Ev.congr (fun k => by rw [lit2]) (Ev.of (redactorref01_Of.mono _) (k := 40) ofA_2)
  | 3, _ => Ev.congr (fun k => by rw [lit3]) (Ev.of (redactorref01_Of.mono _) (k := 40) ofA_3)
  | 4, _ => Ev.congr (fun k => by rw [lit4]) (Ev.of (redactorref01_Of.mono _) (k := 40) ofA_4)
  | 5, _ => Ev.congr (fun k => by rw [lit5]) (Ev.of (redactorref01_Of.mono _) (k := 40) ofA_5)
theorem parseA_0 : subst_Parse.f (cellsA 0 ++ [47]) 0 47 1 = some (partsA 0, 1, 0, 0) := by kernel_rfl
theorem parseA_1 : subst_Parse.f (cellsA 1 ++ [47]) 0 47 1 = some (partsA 1, 5, 0, 0) := by kernel_rfl
theorem parseA_2 : subst_Parse.f (cellsA 2 ++ [47]) 0 47 1 = some (partsA 2, 9, 0, 0) := by kernel_rfl
theorem parseA_3 : subst_Parse.f (cellsA 3 ++ [47]) 0 47 1 = some (partsA 3, 13, 0, 0) := by kernel_rfl
theorem parseA_4 : subst_Parse.f (cellsA 4 ++ [47]) 0 47 1 = some (partsA 4, 17, 0, 0) := by kernel_rfl
theorem parseA_5 : subst_Parse.f (cellsA 5 ++ [47]) 0 47 1 = some (partsA 5, 21, 0, 0) := by kernel_rfl
theorem parseA (n : Nat) (h : n ≤ 5) : ∃ t, subst_Parse.f (cellsA n ++ [47]) 0 47 1 = some (partsA n, t, 0, 0) :=
  match n, h with
  | 0, _ => ⟨_, parseA_0⟩
  | 1, _ => ⟨_, parseA_1⟩
  | 2, _ => ⟨_, parseA_2⟩
  | 3, _ => ⟨_, parseA_3⟩
  | 4, _ => ⟨_, parseA_4⟩
  | 5, _ => ⟨_, parseA_5⟩
section
variable (x : List Int) (f t : Nat) (hf : f ≤ t) (ht : t ≤ x.length) (hx : x.length ≤ 60)
include hf ht hx
theorem want_length (n : Nat) : (wantA x f t n).length ≤ 121 * n := by
  induction n with
  | zero => simp [wantA]
  | succ n ih => unfold wantA; simp; omega
theorem expA (n : Nat) : (partsA n).flatMap (partP x [⟨(f : Int), (t : Int)⟩, ⟨0, (x.length : Int)⟩]) = wantA x f t n := by
  induction n with
  | zero => rfl
  | succ n ih =>
    have e1 : partP x [⟨(f : Int), (t : Int)⟩, ⟨0, (x.length : Int)⟩] ⟨2, [], 0⟩ = (x.take t).drop f := by
      unfold partP
      have e : rd_T44 [⟨(f : Int), (t : Int)⟩, ⟨0, (x.length : Int)⟩] 0 = ⟨(f : Int), (t : Int)⟩ := rfl
      simp only [e]
      rw [if_neg (show ¬ ((2 : Int) = 1) by decide), if_pos ⟨trivial, by decide, by simp, by omega, by omega, by omega⟩]
      simp
    have e2 : partP x [⟨(f : Int), (t : Int)⟩, ⟨0, (x.length : Int)⟩] ⟨2, [], 1⟩ = x := by
      unfold partP
      have e : rd_T44 [⟨(f : Int), (t : Int)⟩, ⟨0, (x.length : Int)⟩] 1 = ⟨0, (x.length : Int)⟩ := rfl
      simp only [e]
      rw [if_neg (show ¬ ((2 : Int) = 1) by decide), if_pos ⟨trivial, by decide, by simp, by omega, by omega, by omega⟩]
      simp
    have e3 : partP x [⟨(f : Int), (t : Int)⟩, ⟨0, (x.length : Int)⟩] ⟨1, [45], 0⟩ = [45] := rfl
    unfold partsA wantA
    rw [List.flatMap_append, ih]
    simp only [List.flatMap_cons, List.flatMap_nil, e1, e2, e3, List.append_nil, List.append_assoc]
theorem all_go (a1 : Int) (n : Nat) (hn : n ≤ 5) (ha : wrap64 (Int.tmod a1 6) = n) : ∀ (d i : Nat), i ≤ n → n - i = d → Ev (fun k => redactorlaw14_SubstAll.l0 k a1 x (f : Int) (t : Int) (textA i) (wantA x f t i) (i : Int)) true := by
  intro d
  induction d with
  | zero =>
    intro i h1 h2
    obtain rfl : i = n := by omega
    obtain ⟨upto, hto⟩ := parseA i hn
    refine Ev.step (f := fun k => (redactorref01_Of.f k (textA i ++ (⟨#[47]⟩ : ByteArray))).bind fun t262 => ((subst_Parse.f t262 0 47 1).bind fun bt265 => ((redactorlaw14_known.f k).bind fun t271 => (if t271 = true then (if bt265.2.2.1 = 0 then ((subst_Expand.f k bt265.1 x (([(⟨(f : Int), (t : Int)⟩ : S44), (⟨0, (x.length : Int)⟩ : S44)] : List (S44)))).bind fun t275 => ((redactorref01_Same.f k t275 (wantA x f t i)).bind fun t278 => (some t278))) else (some false)) else (some false))))) (fun k => ?_) ?_
    · simp only [redactorlaw14_SubstAll.l0]
      rw [ha, if_neg (by omega), if_pos (by rw [textA_size]; omega)]
    · refine Ev.bind (ofA i hn) ?_
      refine Ev.congr (fun k => by rw [hto, Option.bind_some]) ?_
      refine Ev.bind known_ev ?_
      refine Ev.congr (fun k => by rw [if_pos rfl, if_pos rfl]) ?_
      have hw := want_length x f t hf ht hx i
      have hp : (partsA i).length ≤ 15 := by
        have : ∀ m, (partsA m).length = 3 * m := by
          intro m; induction m with
          | zero => rfl
          | succ m ih => unfold partsA; simp [ih]; omega
        rw [this]; omega
      have he := expand_ev x [⟨(f : Int), (t : Int)⟩, ⟨0, (x.length : Int)⟩] (partsA i) (by omega) (by rw [expA x f t hf ht hx i]; omega)
      rw [expA x f t hf ht hx i] at he
      refine Ev.bind he ?_
      exact Ev.bind (same_ev _ (by omega)) (Ev.now _)
  | succ d ih =>
    intro i h1 h2
    have hw : wrap64 ((i : Int) + 1) = ((i + 1 : Nat) : Int) := by rw [w64 (by omega) (by omega)]; rfl
    have hwl := want_length x f t hf ht hx i
    refine Ev.step (fun k => ?_) (ih (i + 1) (by omega) (by omega))
    simp only [redactorlaw14_SubstAll.l0]
    rw [ha, if_pos (by omega), if_pos (by rw [textA_size]; omega), if_pos (by omega), if_pos (by omega), if_pos (by omega), Option.bind_some, Int.toNat_natCast, Int.toNat_natCast,
      if_pos (by simp; omega), Option.bind_some, if_pos (by simp; omega), Option.bind_some, if_pos (by simp; omega), hw, show textA (i + 1) = textA i ++ (⟨#[38, 92, 49, 45]⟩ : ByteArray) from rfl, show wantA x f t (i + 1) = wantA x f t i ++ (x.take t).drop f ++ x ++ [45] from rfl]
end
theorem ne1 (L : Nat) : ¬ ((L : Int) + 1 = 0) := by omega
theorem ne2 {L f : Nat} (h : f ≤ L) : ¬ ((L : Int) - f + 1 = 0) := by omega
theorem sub_w1 {L f : Nat} (h : f ≤ L) (hL : L ≤ 60) : wrap64 ((L : Int) - f) = (L : Int) - f := by unfold wrap64; omega
theorem sub_w2 {L f : Nat} (h : f ≤ L) (hL : L ≤ 60) : wrap64 ((L : Int) - f + 1) = (L : Int) - f + 1 := by unfold wrap64; omega
theorem sub_w3 {f b : Nat} (h : f ≤ 60) (hL : b ≤ 300) : wrap64 ((f : Int) + b) = ((f + b : Nat) : Int) := by unfold wrap64; omega
theorem tmod_nat (a b : Int) (ha : 0 ≤ a) (hb : 0 < b) : ∃ n : Nat, Int.tmod a b = n ∧ (n : Int) < b := by
  have h0 := Int.tmod_nonneg b ha
  have h1 := Int.tmod_lt_of_pos a hb
  obtain ⟨n, hn⟩ := Int.eq_ofNat_of_zero_le h0
  exact ⟨n, hn, by rw [← hn]; exact h1⟩
theorem u8_le {a : Int} (h : (Lit.int .u8 a).wf = true) : 0 ≤ a ∧ a ≤ 255 := by
  have h8 : IntKind.u8.min = 0 ∧ IntKind.u8.max = 255 := by decide
  simp [Lit.wf, h8.1, h8.2] at h; omega
theorem all_nums (L : Nat) (hL : L ≤ 60) (a1 a2 a3 : Int) (g1 : 0 ≤ a1 ∧ a1 ≤ 255) (g2 : 0 ≤ a2 ∧ a2 ≤ 255) (g3 : 0 ≤ a3 ∧ a3 ≤ 255) : ∃ n f b : Nat, n ≤ 5 ∧ f + b ≤ L ∧ wrap64 (Int.tmod a1 6) = n ∧ wrap64 ((L : Int) + 1) = (L : Int) + 1 ∧ wrap64 a2 = a2 ∧ wrap64 a3 = a3 ∧ Int.tmod a2 ((L : Int) + 1) = f ∧ wrap64 ((L : Int) - f) = (L : Int) - f ∧ wrap64 ((L : Int) - f + 1) = (L : Int) - f + 1 ∧ Int.tmod a3 ((L : Int) - f + 1) = b ∧ wrap64 ((f : Int) + b) = ((f + b : Nat) : Int) := by
  obtain ⟨n, n1, n2⟩ := tmod_nat a1 6 g1.1 (by decide)
  obtain ⟨f, f1, f2⟩ := tmod_nat a2 ((L : Int) + 1) g2.1 (by omega)
  have hf : f ≤ L := by clear f1 n1; omega
  obtain ⟨b, b1, b2⟩ := tmod_nat a3 ((L : Int) - f + 1) g3.1 (by clear f1 n1; omega)
  have hb : f + b ≤ L := by clear f1 n1 b1; omega
  have hn : n ≤ 5 := by clear f1 n1 b1; omega
  refine ⟨n, f, b, hn, hb, ?_, w64 (by omega) (by omega), w64 (by omega) (by omega), w64 (by omega) (by omega), f1, sub_w1 hf hL, sub_w2 hf hL, b1, sub_w3 (Nat.le_trans hf hL) (by clear f1 n1 b1; omega)⟩
  rw [n1]; exact w64 (by clear f1 n1 b1; omega) (by clear f1 n1 b1; omega)
theorem SubstAll : redactorlaw14_SubstAll.Pure := by
  intro l0 a1 a2 a3 hm hb hu h1 h2 h3
  obtain ⟨x, hx, hx2, hxw⟩ := cells_ev l0 hb hu
  obtain ⟨n, f, b, hn, hfb, he, w1, w2, w3, hf, w4, w5, hb2, w6⟩ := all_nums x.length hx2 a1 a2 a3 (u8_le h1) (u8_le h2) (u8_le h3)
  have hgo := all_go x f (f + b) (Nat.le_add_right _ _) hfb hx2 a1 n hn he n 0 (Nat.zero_le _) rfl
  obtain ⟨K1, hK1⟩ := hx
  obtain ⟨K2, hK2⟩ := hgo
  have n1 : ¬ ((x.length : Int) + 1 = 0) := ne1 _
  have n2 : ¬ ((x.length : Int) - f + 1 = 0) := ne2 (Nat.le_trans (Nat.le_add_right f b) hfb)
  have e1 : redactorlaw01_Cells.f (max K1 K2) l0 = some x := hK1 (max K1 K2) (Nat.le_max_left _ _)
  have e2 := hK2 (max K1 K2) (Nat.le_max_right _ _)
  generalize max K1 K2 = K at e1 e2
  refine ⟨K, ?_⟩
  rw [redactorlaw14_SubstAll.f.eq_1, e1, Option.bind_some, w1, w2, w3, hf, w4, w5, hb2, w6, if_neg n1, if_neg n2]
  exact e2
end Go.Proofs.Ytfgccmgfkfhfcaa.Pure
