/- isthmus law NodeLives: for every input whose values and letters are together at most 1048576, the call returns true and every argument reads afterwards as it read before. Condition: that bound. -/
import Derived.Test.YtlofcomnhecgfaaMNodeLivesa
import Derived.Test.YtlofcomnhecgfaaRows
import Derived.Test.YtlofcomnhecgfaaFactA
import Derived.Test.YtlofcomnhecgfaaFactB
import Derived.Test.YtlofcomnhecgfaaFactC
import Derived.WalkKit
import Derived.ProofKit
import Derived.OpenShut
import Derived.JoinedCond
import Derived.ChangeOld
import Derived.Carry
namespace Go.Proofs.Ytlofcomnhecgfaa.nodeLives
open Go.ChangeShapes Go.WideShapes Go.ChangeAt Go.RowKit
set_option linter.unusedVariables false

theorem own : ownKnob Try.prog.godebug = none := by kernel_rfl
theorem laidOut : laidOutB Try.prog = true := by kernel_rfl

set_option maxRecDepth 100000 in
theorem contract (H : Type) (enc : TypeId × Value → H) (W : World) (base : Nat) (args : Array Value) (ds gs : List (DataW H)) (before : List MemPlace)
    (hval : ∀ (j : Nat) t v, Try.f20.params[j]? = some t → args[j]? = some v → Value.okWide Try.prog W .any base t v)
    (hW : DataW.Whole enc Try.prog Try.f20.params.toList Rows.nodeLivesSpec.vars false W args.toList ds gs before) (hk : Rows.uptoSmall H (ds ++ gs) = true) :
    Calls Try.prog 20 args W fun e W' => ∃ v, e = .returned v ∧ Rows.nodeLivesSpec.post enc Try.prog Try.f20 false true false false W args v W' := by
  have hW' := hW
  obtain ⟨p, q, hA0, hV, rfl, hfz, hnd⟩ := hW
  have hA : DataW.TrodAll enc Try.prog W 0 (fun _ => true) true Try.f20.params.toList args.toList ds p := hA0
  rw [Try.params20] at hA hval
  obtain ⟨v0, vs0, d0, ds0, p0, q0, hargs, rfl, rfl, h0, r0⟩ := trodAll_cons hA
  obtain ⟨v1, vs1, d1, ds1, p1, q1, rfl, rfl, rfl, h1, r1⟩ := trodAll_cons r0
  obtain ⟨rfl, rfl, rfl⟩ := trodAll_nil r1
  obtain rfl : args = #[v0, v1] := by cases args; simp_all
  obtain ⟨rfl, rfl⟩ := trodVars_none hV
  have lt0 : ∀ x ∈ p0, x.block < W.heap.size := by obtain ⟨m, hm⟩ := h0; exact DataW.trod_lt m _ _ _ hm
  have lt1 : ∀ x ∈ p1, x.block < W.heap.size := by obtain ⟨m, hm⟩ := h1; exact DataW.trod_lt m _ _ _ hm
  clear hA0
  refine Calls.mono (B.reads_NodeLives W h0 h1 (hval 0 39 v0 rfl rfl) (hval 1 91 v1 rfl rfl) (B.bulk_bound hk)) fun e W' ⟨v, he, hv, hg⟩ => ?_
  have bel := B.Grow.below hg
  subst he
  subst hv
  exact ⟨_, rfl, _, _, _, [], _, [], hW', trodAll_mk1 (shut_bool Try.underlying4 _), (trodAll_cons_mk (Below.trod laidOut (by kernel_rfl) (of_decide_eq_true (by kernel_rfl)) h0 bel lt0) (trodAll_cons_mk (Below.trod laidOut (by kernel_rfl) (of_decide_eq_true (by kernel_rfl)) h1 bel lt1) trodAll_mk0)), rfl, bel.frame _, fun h => by cases h⟩

set_option maxRecDepth 100000 in
theorem lifted (os : Os) (started : os.Started) (H : Type) (enc : TypeId × Value → H) (F : Stop.Interp) :
    ReturnsInHanded {} Try.checked os 20 .any ((Rows.OpenSpec.upto Rows.nodeLivesSpec).pre6 enc Try.prog Try.f20 Rows.nodeLivesUptoRow.domain false) (((Rows.OpenSpec.upto Rows.nodeLivesSpec).at F).post enc Try.prog Try.f20 false true false false) := by
  refine returnsInHanded_of_cond (C := Try.checked) (s := Rows.OpenSpec.upto Rows.nodeLivesSpec) (k := Rows.uptoSmall) rfl own started (by kernel_rfl) Try.func20
    (OpenSpec.witness (enc := enc) (C := Try.checked) (s := Rows.OpenSpec.upto Rows.nodeLivesSpec) (k := Rows.uptoSmall) rfl false ⟨#[], #[.slice none 0 0, .slice none 0 0], []⟩ 8 (by kernel_rfl) (by kernel_rfl) (by kernel_rfl)
      (x := ([.nil, .nil], [], [])) (by kernel_rfl) rfl (by kernel_rfl)) ?_
  intro W base args ds gs before hval hW _ hk _
  exact contract H enc W base args ds gs before hval hW hk

theorem closed : joinedFacts Try.pinned.checked.prog 20 Try.f20 (Rows.OpenSpec.upto Rows.nodeLivesSpec).bare Rows.nodeLivesUptoRow = true := by
  unfold joinedFacts
  simp only [Bool.and_eq_true]
  and_intros
  all_goals first
    | with_reducible exact Facts.mayEnter
    | with_reducible exact Facts.make
    | with_reducible exact Facts.lifted
    | kernel_rfl
theorem over : Rows.nodeLivesUptoRow.holds Try.pinned (Rows.OpenSpec.upto Rows.nodeLivesSpec) :=
  OpenClaim.holds_of_cond 20 Try.f20 rfl rfl rfl rfl rfl rfl rfl ⟨rfl, rfl, rfl, rfl, rfl⟩ rfl rfl rfl rfl rfl (by kernel_rfl) Try.func20 closed
    (of_decide_eq_true (by kernel_rfl)) (by unfold Func.isWrapper; first | (rw [if_pos (by decide +kernel)]; kernel_rfl) | (rw [if_neg (by decide +kernel)]; exact ⟨rfl, rfl⟩))
    (fun os started H enc _ F => lifted os started H enc F)
end Go.Proofs.Ytlofcomnhecgfaa.nodeLives
namespace Go.Proofs.Ytlofcomnhecgfaa
theorem nodeLives_holds : Rows.NodeLivesUptoSaid := nodeLives.over
end Go.Proofs.Ytlofcomnhecgfaa
#print axioms Go.Proofs.Ytlofcomnhecgfaa.nodeLives_holds
