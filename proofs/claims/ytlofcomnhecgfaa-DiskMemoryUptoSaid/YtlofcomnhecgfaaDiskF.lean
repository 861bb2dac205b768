/- What a loss of power leaves, plain. -/
import Derived.Test.YtlofcomnhecgfaaDiskE
namespace Go.Proofs.Ytlofcomnhecgfaa
namespace B
set_option linter.unusedVariables false

/-- One byte that isn't safe: the bytes so far, how many of them will be left, what is still to be told of keeping. -/
def crashStep (st : List UInt8 × Nat × List Bool) (c : UInt8) : List UInt8 × Nat × List Bool :=
  match st.2.2 with
  | true :: ks => (st.1 ++ [c], st.1.length + 1, ks)
  | false :: ks => (st.1 ++ [0], st.2.1, ks)
  | [] => (st.1 ++ [0], st.2.1, [])
def crashRun (f : PF) (ks : List Bool) (k : Nat) : List UInt8 × Nat × List Bool := ((f.data.drop f.safe).take k).foldl crashStep (f.data.take f.safe, f.safe, ks)
def crashFile (f : PF) (ks : List Bool) : List UInt8 × List Bool :=
  let st := crashRun f ks (f.data.length - f.safe)
  (st.1.take st.2.1, st.2.2)
/-- Names and bytes that are left, file by file. -/
def crashAll : List PF → List Bool → List (List UInt8 × List UInt8) × List Bool
  | [], ks => ([], ks)
  | f :: l, ks => let r := crashFile f ks; let q := crashAll l r.2; ((f.name, r.1) :: q.1, q.2)
theorem crashRun_step {f : PF} {ks : List Bool} {k : Nat} (h : f.safe + k < f.data.length) : crashRun f ks (k + 1) = crashStep (crashRun f ks k) f.data[f.safe + k] := by
  unfold crashRun
  rw [List.take_succ_eq_append_getElem (by simp; omega), List.foldl_append]
  simp
theorem crashRun_len {f : PF} {ks : List Bool} {k : Nat} (h : f.safe + k ≤ f.data.length) : (crashRun f ks k).1.length = f.safe + k ∧ f.safe ≤ (crashRun f ks k).2.1 ∧ (crashRun f ks k).2.1 ≤ f.safe + k := by
  induction k with
  | zero => simp [crashRun]; omega
  | succ k ih =>
    have := ih (by omega)
    rw [crashRun_step (by omega)]
    unfold crashStep
    split <;> simp <;> omega
end B
end Go.Proofs.Ytlofcomnhecgfaa
