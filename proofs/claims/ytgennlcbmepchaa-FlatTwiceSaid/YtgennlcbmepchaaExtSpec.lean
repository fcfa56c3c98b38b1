/- What Resolve comes to, in plain Lean: commands, places that are open, labels. -/
import Derived.Test.YtgennlcbmepchaaPAllx0
namespace Go.Proofs.Ytgennlcbmepchaa.PAll

/-- A command that leads to v. -/
def setJ (x : S32) (v : Int) : S32 := { x with f15 := v }
/-- Commands, the places that are open, labels with their places. -/
structure RSt where
  xs : List S32
  op : List Nat
  lb : List (ByteArray × Int)
def hasLab (lb : List (ByteArray × Int)) (s : ByteArray) : Bool := lb.any fun p => decide (p.1 = s)
def getLab (lb : List (ByteArray × Int)) (s : ByteArray) : Int := lb.foldl (fun a p => if p.1 = s then p.2 else a) 0
def at32 (xs : List S32) (i : Nat) : S32 := xs.getD i z32
/-- note, of place i. -/
def noteP (st : RSt) (i : Nat) : Except Int RSt :=
  if (at32 st.xs i).f3 = 123 then .ok ⟨st.xs.set i (setJ (at32 st.xs i) (-1)), st.op ++ [i], st.lb⟩
  else if (at32 st.xs i).f3 = 125 then
    match st.op.getLast? with
    | none => .error 51
    | some q => .ok ⟨st.xs.set q (setJ (at32 st.xs q) i), st.op.dropLast, st.lb⟩
  else if (at32 st.xs i).f3 = 58 then if hasLab st.lb (at32 st.xs i).f5 then .error 32 else .ok ⟨st.xs, st.op, st.lb ++ [((at32 st.xs i).f5, (i : Int))]⟩
  else .ok st
/-- lead, of place i. -/
def leadP (lb : List (ByteArray × Int)) (xs : List S32) (i : Nat) : Except Int (List S32) :=
  if (at32 xs i).f3 = 123 then if (at32 xs i).f15 < 0 then .error 51 else .ok xs
  else if (at32 xs i).f3 = 98 ∨ (at32 xs i).f3 = 116 then
    if (at32 xs i).f5.toList.isEmpty then .ok (xs.set i (setJ (at32 xs i) xs.length))
    else if hasLab lb (at32 xs i).f5 then .ok (xs.set i (setJ (at32 xs i) (getLab lb (at32 xs i).f5))) else .error 50
  else .ok xs
/-- note, command by command: d of them are left, i is the next; else the error, and its place. -/
def notes (l0 : List S32) : Nat → RSt → Nat → Except (Int × Int) RSt
  | 0, st, _ => .ok st
  | d + 1, st, i => match noteP st i with
    | .error e => .error (e, (at32 l0 i).f16)
    | .ok st' => notes l0 d st' (i + 1)
def leads (l0 : List S32) (lb : List (ByteArray × Int)) : Nat → List S32 → Nat → Except (Int × Int) (List S32)
  | 0, xs, _ => .ok xs
  | d + 1, xs, i => match leadP lb xs i with
    | .error e => .error (e, (at32 l0 i).f16)
    | .ok xs' => leads l0 lb d xs' (i + 1)
def resolveP (l0 : List S32) : List S32 × Int × Int :=
  match notes l0 l0.length ⟨l0.map (setJ · 0), [], []⟩ 0 with
  | .error (e, p) => ([], e, p)
  | .ok st => match leads l0 st.lb l0.length st.xs 0 with
    | .error (e, p) => ([], e, p)
    | .ok xs => (xs, 0, 0)
def flat_Resolve.f (l0 : List S32) : Option ((List S32) × Int × Int) := if l0.length < 475464487686 ∧ (∀ x ∈ l0, x.f5.size ≤ maxLen) then some (resolveP l0) else none
end Go.Proofs.Ytgennlcbmepchaa.PAll
