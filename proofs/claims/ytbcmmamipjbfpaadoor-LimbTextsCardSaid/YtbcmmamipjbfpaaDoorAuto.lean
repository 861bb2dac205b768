/- One step of the walk by itself: the rules that need no hint. No conditions. -/
import Derived.Test.YtbcmmamipjbfpaaDoorNum
import Derived.Test.YtbcmmamipjbfpaaDoorDraw
namespace Go.Proofs.YtbcmmamipjbfpaaDoor
namespace B
set_option linter.unusedVariables false
section
variable {P : Program} {N : Nat} {Q : Post} {e : Env} {w w0 : World} {ops : Array Oper} {rest : List Oper} {ty : TypeId}
def OpV (P : Program) (op : Op) (ty : TypeId) (e : Env) (w : World) (v : Value) : Prop := ∀ K : Value → World → Prop, K v w → OpW P op ty e w K
attribute [local irreducible] OpW WL CW Ret Sl Blk thn blk outOf
theorem WL.auto {d : Nat} {op : Op} {v : Value} {pos : String} {after : Array Edge} (hd : Nat.blt d N = true := by rfl)
    (ho : OpV P op ty e w v := by
      intro K hK
      (first
 | (show OpW _ (.move _) _ _ _ _; first | exact OpW.move (v := .int _ _) rfl hK | exact OpW.move (v := .bool _) rfl hK | exact OpW.move (v := .slice _ _ _) rfl hK | exact OpW.move (v := .pointer _) rfl hK | exact OpW.move (v := .string _) rfl hK | exact OpW.move (v := .agg _) rfl hK | exact OpW.move (v := .tuple _) rfl hK | exact OpW.move (v := .func _ _ _) rfl hK)
 | (show OpW _ (.assign _) _ _ _ _; first | exact OpW.assign (v := .int _ _) rfl hK | exact OpW.assign (v := .bool _) rfl hK | exact OpW.assign (v := .slice _ _ _) rfl hK | exact OpW.assign (v := .pointer _) rfl hK | exact OpW.assign (v := .string _) rfl hK | exact OpW.assign (v := .agg _) rfl hK | exact OpW.assign (v := .tuple _) rfl hK | exact OpW.assign (v := .func _ _ _) rfl hK)
 | (show OpW _ (.nilCheck _) _ _ _ _; first | exact OpW.nilCheck rfl hK)
 | (show OpW _ (.fieldAddr _ _ _) _ _ _ _; first | exact OpW.fieldAddr rfl hK | exact OpW.fieldAddrS rfl (by assumption) hK)
 | (show OpW _ (.load _ _) _ _ _ _; first | exact OpW.load (v := .int _ _) rfl (by assumption) rfl hK | exact OpW.load (v := .slice _ _ _) rfl (by assumption) rfl hK | exact OpW.load (v := .bool _) rfl (by assumption) rfl hK | exact OpW.load (v := .pointer _) rfl (by assumption) rfl hK | exact OpW.load (v := .string _) rfl (by assumption) rfl hK | exact OpW.loadS rfl (by assumption) (by first | assumption | rfl) hK)
 | (show OpW _ (.binOp .lss _ _ _ _) _ _ _ _; first | exact OpW.lss rfl rfl hK | exact OpW.lssStr rfl rfl hK)
 | (show OpW _ (.binOp .leq _ _ _ _) _ _ _ _; first | exact OpW.leq rfl rfl hK)
 | (show OpW _ (.binOp .gtr _ _ _ _) _ _ _ _; first | exact OpW.gtr rfl rfl hK)
 | (show OpW _ (.binOp .geq _ _ _ _) _ _ _ _; first | exact OpW.geq rfl rfl hK)
 | (show OpW _ (.binOp .eql _ _ _ _) _ _ _ _; first | exact OpW.eqlI rfl rfl hK | exact OpW.eqlP rfl rfl hK | exact OpW.eqlS rfl rfl hK | exact OpW.eqlStr rfl rfl hK | exact OpW.eqlB rfl rfl hK)
 | (show OpW _ (.binOp .neq _ _ _ _) _ _ _ _; first | exact OpW.neqI rfl rfl hK | exact OpW.neqP rfl rfl hK | exact OpW.neqStr rfl rfl hK | exact OpW.neqB rfl rfl hK)
 | (show OpW _ (.binOp .add _ _ _ _) _ _ _ _; first | exact OpW.addI _ rfl rfl ⟨rfl, by omega, by omega⟩ hK | exact OpW.addU _ rfl rfl ⟨rfl, by omega, by omega⟩ hK | exact OpW.addS rfl rfl (by omega) hK)
 | (show OpW _ (.binOp .sub _ _ _ _) _ _ _ _; first | exact OpW.subI _ rfl rfl ⟨rfl, by omega, by omega⟩ hK)
 | (show OpW _ (.binOp .mul _ _ _ _) _ _ _ _; first | exact OpW.mulI _ rfl rfl ⟨rfl, by omega, by omega⟩ hK)
 | (show OpW _ (.convert _ _ _) _ _ _ _; first | exact OpW.convByte rfl hK | exact OpW.convU64 rfl ⟨by omega, by omega⟩ hK | exact OpW.convI64 rfl ⟨by omega, by omega⟩ hK)
 | (show OpW _ (.call ⟨.builtin .len, _, _⟩) _ _ _ _; first | exact OpW.len rfl hK | exact OpW.lenStr rfl hK)
 | (show OpW _ (.call ⟨.builtin .cap, _, _⟩) _ _ _ _; first | exact OpW.cap rfl hK)
 | (show OpW _ (.call ⟨.builtin .min, _, _⟩) _ _ _ _; first | exact OpW.min rfl rfl hK)
 | (show OpW _ (.call ⟨.builtin .max, _, _⟩) _ _ _ _; first | exact OpW.max rfl rfl hK)
 | (show OpW _ (.unOp .not _ _) _ _ _ _; first | exact OpW.notP rfl hK | exact OpW.not rfl hK)
 | (show OpW _ (.extract _ _) _ _ _ _; first | exact OpW.extract (v := .int _ _) rfl rfl hK | exact OpW.extract (v := .bool _) rfl rfl hK | exact OpW.extract (v := .slice _ _ _) rfl rfl hK | exact OpW.extract (v := .pointer _) rfl rfl hK | exact OpW.extract (v := .string _) rfl rfl hK | exact OpW.extract (v := .agg _) rfl rfl hK | exact OpW.extract (v := .tuple _) rfl rfl hK | exact OpW.extract (v := .func _ _ _) rfl rfl hK)
 | (show OpW _ (.pick _ _ _) _ _ _ _; first | exact OpW.pickT (v := .bool _) rfl rfl hK | exact OpW.pickF (v := .bool _) rfl rfl hK)))
    (h : WL P N ops Q rest (upd e d v) w) : WL P N ops Q (⟨some d, op, ty, pos, after, none⟩ :: rest) e w :=
  WL.step hd (ho _ h)
theorem WL.gauto {d j dj : Nat} {want : Bool} {op : Op} {v : Value} {pos : String} {after : Array Edge} (hj : (ops[j]?).bind (·.dst) = some dj := by rfl) (hn : Nat.blt dj N = true := by rfl) (hd : Nat.blt d N = true := by rfl)
    (hb : e dj = .bool want := by rfl)
    (ho : OpV P op ty e w v := by
      intro K hK
      (first
 | (show OpW _ (.move _) _ _ _ _; first | exact OpW.move (v := .int _ _) rfl hK | exact OpW.move (v := .bool _) rfl hK | exact OpW.move (v := .slice _ _ _) rfl hK | exact OpW.move (v := .pointer _) rfl hK | exact OpW.move (v := .string _) rfl hK | exact OpW.move (v := .agg _) rfl hK | exact OpW.move (v := .tuple _) rfl hK | exact OpW.move (v := .func _ _ _) rfl hK)
 | (show OpW _ (.assign _) _ _ _ _; first | exact OpW.assign (v := .int _ _) rfl hK | exact OpW.assign (v := .bool _) rfl hK | exact OpW.assign (v := .slice _ _ _) rfl hK | exact OpW.assign (v := .pointer _) rfl hK | exact OpW.assign (v := .string _) rfl hK | exact OpW.assign (v := .agg _) rfl hK | exact OpW.assign (v := .tuple _) rfl hK | exact OpW.assign (v := .func _ _ _) rfl hK)
 | (show OpW _ (.nilCheck _) _ _ _ _; first | exact OpW.nilCheck rfl hK)
 | (show OpW _ (.fieldAddr _ _ _) _ _ _ _; first | exact OpW.fieldAddr rfl hK | exact OpW.fieldAddrS rfl (by assumption) hK)
 | (show OpW _ (.load _ _) _ _ _ _; first | exact OpW.load (v := .int _ _) rfl (by assumption) rfl hK | exact OpW.load (v := .slice _ _ _) rfl (by assumption) rfl hK | exact OpW.load (v := .bool _) rfl (by assumption) rfl hK | exact OpW.load (v := .pointer _) rfl (by assumption) rfl hK | exact OpW.load (v := .string _) rfl (by assumption) rfl hK | exact OpW.loadS rfl (by assumption) (by first | assumption | rfl) hK)
 | (show OpW _ (.binOp .lss _ _ _ _) _ _ _ _; first | exact OpW.lss rfl rfl hK | exact OpW.lssStr rfl rfl hK)
 | (show OpW _ (.binOp .leq _ _ _ _) _ _ _ _; first | exact OpW.leq rfl rfl hK)
 | (show OpW _ (.binOp .gtr _ _ _ _) _ _ _ _; first | exact OpW.gtr rfl rfl hK)
 | (show OpW _ (.binOp .geq _ _ _ _) _ _ _ _; first | exact OpW.geq rfl rfl hK)
 | (show OpW _ (.binOp .eql _ _ _ _) _ _ _ _; first | exact OpW.eqlI rfl rfl hK | exact OpW.eqlP rfl rfl hK | exact OpW.eqlS rfl rfl hK | exact OpW.eqlStr rfl rfl hK | exact OpW.eqlB rfl rfl hK)
 | (show OpW _ (.binOp .neq _ _ _ _) _ _ _ _; first | exact OpW.neqI rfl rfl hK | exact OpW.neqP rfl rfl hK | exact OpW.neqStr rfl rfl hK | exact OpW.neqB rfl rfl hK)
 | (show OpW _ (.binOp .add _ _ _ _) _ _ _ _; first | exact OpW.addI _ rfl rfl ⟨rfl, by omega, by omega⟩ hK | exact OpW.addU _ rfl rfl ⟨rfl, by omega, by omega⟩ hK | exact OpW.addS rfl rfl (by omega) hK)
 | (show OpW _ (.binOp .sub _ _ _ _) _ _ _ _; first | exact OpW.subI _ rfl rfl ⟨rfl, by omega, by omega⟩ hK)
 | (show OpW _ (.binOp .mul _ _ _ _) _ _ _ _; first | exact OpW.mulI _ rfl rfl ⟨rfl, by omega, by omega⟩ hK)
 | (show OpW _ (.convert _ _ _) _ _ _ _; first | exact OpW.convByte rfl hK | exact OpW.convU64 rfl ⟨by omega, by omega⟩ hK | exact OpW.convI64 rfl ⟨by omega, by omega⟩ hK)
 | (show OpW _ (.call ⟨.builtin .len, _, _⟩) _ _ _ _; first | exact OpW.len rfl hK | exact OpW.lenStr rfl hK)
 | (show OpW _ (.call ⟨.builtin .cap, _, _⟩) _ _ _ _; first | exact OpW.cap rfl hK)
 | (show OpW _ (.call ⟨.builtin .min, _, _⟩) _ _ _ _; first | exact OpW.min rfl rfl hK)
 | (show OpW _ (.call ⟨.builtin .max, _, _⟩) _ _ _ _; first | exact OpW.max rfl rfl hK)
 | (show OpW _ (.unOp .not _ _) _ _ _ _; first | exact OpW.notP rfl hK | exact OpW.not rfl hK)
 | (show OpW _ (.extract _ _) _ _ _ _; first | exact OpW.extract (v := .int _ _) rfl rfl hK | exact OpW.extract (v := .bool _) rfl rfl hK | exact OpW.extract (v := .slice _ _ _) rfl rfl hK | exact OpW.extract (v := .pointer _) rfl rfl hK | exact OpW.extract (v := .string _) rfl rfl hK | exact OpW.extract (v := .agg _) rfl rfl hK | exact OpW.extract (v := .tuple _) rfl rfl hK | exact OpW.extract (v := .func _ _ _) rfl rfl hK)
 | (show OpW _ (.pick _ _ _) _ _ _ _; first | exact OpW.pickT (v := .bool _) rfl rfl hK | exact OpW.pickF (v := .bool _) rfl rfl hK)))
    (h : WL P N ops Q rest (upd e d v) w) : WL P N ops Q (⟨some d, op, ty, pos, after, some (j, want)⟩ :: rest) e w :=
  WL.gstep hj hn hd hb (ho _ h)
theorem QL.auto {d : Nat} {op : Op} {v : Value} {pos : String} {after : Array Edge} (hd : Nat.blt d N = true := by rfl) (hv : valOp op = true := by rfl)
    (ho : ∀ w, Grow w0 w → OpV P op ty e w v := by
      intro w hg K hK
      (first
 | (show OpW _ (.move _) _ _ _ _; first | exact OpW.move (v := .int _ _) rfl hK | exact OpW.move (v := .bool _) rfl hK | exact OpW.move (v := .slice _ _ _) rfl hK | exact OpW.move (v := .pointer _) rfl hK | exact OpW.move (v := .string _) rfl hK | exact OpW.move (v := .agg _) rfl hK | exact OpW.move (v := .tuple _) rfl hK | exact OpW.move (v := .func _ _ _) rfl hK)
 | (show OpW _ (.assign _) _ _ _ _; first | exact OpW.assign (v := .int _ _) rfl hK | exact OpW.assign (v := .bool _) rfl hK | exact OpW.assign (v := .slice _ _ _) rfl hK | exact OpW.assign (v := .pointer _) rfl hK | exact OpW.assign (v := .string _) rfl hK | exact OpW.assign (v := .agg _) rfl hK | exact OpW.assign (v := .tuple _) rfl hK | exact OpW.assign (v := .func _ _ _) rfl hK)
 | (show OpW _ (.nilCheck _) _ _ _ _; first | exact OpW.nilCheck rfl hK)
 | (show OpW _ (.fieldAddr _ _ _) _ _ _ _; first | exact OpW.fieldAddr rfl hK | exact OpW.fieldAddrS rfl (by assumption) hK)
 | (show OpW _ (.load _ _) _ _ _ _; first | exact OpW.load (v := .int _ _) rfl (Blk.grow (by assumption) hg) rfl hK | exact OpW.load (v := .slice _ _ _) rfl (Blk.grow (by assumption) hg) rfl hK | exact OpW.load (v := .bool _) rfl (Blk.grow (by assumption) hg) rfl hK | exact OpW.load (v := .pointer _) rfl (Blk.grow (by assumption) hg) rfl hK | exact OpW.load (v := .string _) rfl (Blk.grow (by assumption) hg) rfl hK | exact OpW.loadS rfl (Sl.grow (by assumption) hg) (by first | assumption | rfl) hK)
 | (show OpW _ (.binOp .lss _ _ _ _) _ _ _ _; first | exact OpW.lss rfl rfl hK | exact OpW.lssStr rfl rfl hK)
 | (show OpW _ (.binOp .leq _ _ _ _) _ _ _ _; first | exact OpW.leq rfl rfl hK)
 | (show OpW _ (.binOp .gtr _ _ _ _) _ _ _ _; first | exact OpW.gtr rfl rfl hK)
 | (show OpW _ (.binOp .geq _ _ _ _) _ _ _ _; first | exact OpW.geq rfl rfl hK)
 | (show OpW _ (.binOp .eql _ _ _ _) _ _ _ _; first | exact OpW.eqlI rfl rfl hK | exact OpW.eqlP rfl rfl hK | exact OpW.eqlS rfl rfl hK | exact OpW.eqlStr rfl rfl hK | exact OpW.eqlB rfl rfl hK)
 | (show OpW _ (.binOp .neq _ _ _ _) _ _ _ _; first | exact OpW.neqI rfl rfl hK | exact OpW.neqP rfl rfl hK | exact OpW.neqStr rfl rfl hK | exact OpW.neqB rfl rfl hK)
 | (show OpW _ (.binOp .add _ _ _ _) _ _ _ _; first | exact OpW.addI _ rfl rfl ⟨rfl, by omega, by omega⟩ hK | exact OpW.addU _ rfl rfl ⟨rfl, by omega, by omega⟩ hK | exact OpW.addS rfl rfl (by omega) hK)
 | (show OpW _ (.binOp .sub _ _ _ _) _ _ _ _; first | exact OpW.subI _ rfl rfl ⟨rfl, by omega, by omega⟩ hK)
 | (show OpW _ (.binOp .mul _ _ _ _) _ _ _ _; first | exact OpW.mulI _ rfl rfl ⟨rfl, by omega, by omega⟩ hK)
 | (show OpW _ (.convert _ _ _) _ _ _ _; first | exact OpW.convByte rfl hK | exact OpW.convU64 rfl ⟨by omega, by omega⟩ hK | exact OpW.convI64 rfl ⟨by omega, by omega⟩ hK)
 | (show OpW _ (.call ⟨.builtin .len, _, _⟩) _ _ _ _; first | exact OpW.len rfl hK | exact OpW.lenStr rfl hK)
 | (show OpW _ (.call ⟨.builtin .cap, _, _⟩) _ _ _ _; first | exact OpW.cap rfl hK)
 | (show OpW _ (.call ⟨.builtin .min, _, _⟩) _ _ _ _; first | exact OpW.min rfl rfl hK)
 | (show OpW _ (.call ⟨.builtin .max, _, _⟩) _ _ _ _; first | exact OpW.max rfl rfl hK)
 | (show OpW _ (.unOp .not _ _) _ _ _ _; first | exact OpW.notP rfl hK | exact OpW.not rfl hK)
 | (show OpW _ (.extract _ _) _ _ _ _; first | exact OpW.extract (v := .int _ _) rfl rfl hK | exact OpW.extract (v := .bool _) rfl rfl hK | exact OpW.extract (v := .slice _ _ _) rfl rfl hK | exact OpW.extract (v := .pointer _) rfl rfl hK | exact OpW.extract (v := .string _) rfl rfl hK | exact OpW.extract (v := .agg _) rfl rfl hK | exact OpW.extract (v := .tuple _) rfl rfl hK | exact OpW.extract (v := .func _ _ _) rfl rfl hK)
 | (show OpW _ (.pick _ _ _) _ _ _ _; first | exact OpW.pickT (v := .bool _) rfl rfl hK | exact OpW.pickF (v := .bool _) rfl rfl hK)))
    (hn : QL P N ops w0 Q rest (upd e d v)) : QL P N ops w0 Q (⟨some d, op, ty, pos, after, none⟩ :: rest) e :=
  QL.step hd hv (fun w hg => ho w hg _ ⟨rfl, rfl⟩) hn
theorem QL.gauto {d j dj : Nat} {want : Bool} {op : Op} {v : Value} {pos : String} {after : Array Edge} (hj : (ops[j]?).bind (·.dst) = some dj := by rfl) (hn' : Nat.blt dj N = true := by rfl) (hd : Nat.blt d N = true := by rfl) (hb : e dj = .bool want := by rfl) (hv : valOp op = true := by rfl)
    (ho : ∀ w, Grow w0 w → OpV P op ty e w v := by
      intro w hg K hK
      (first
 | (show OpW _ (.move _) _ _ _ _; first | exact OpW.move (v := .int _ _) rfl hK | exact OpW.move (v := .bool _) rfl hK | exact OpW.move (v := .slice _ _ _) rfl hK | exact OpW.move (v := .pointer _) rfl hK | exact OpW.move (v := .string _) rfl hK | exact OpW.move (v := .agg _) rfl hK | exact OpW.move (v := .tuple _) rfl hK | exact OpW.move (v := .func _ _ _) rfl hK)
 | (show OpW _ (.assign _) _ _ _ _; first | exact OpW.assign (v := .int _ _) rfl hK | exact OpW.assign (v := .bool _) rfl hK | exact OpW.assign (v := .slice _ _ _) rfl hK | exact OpW.assign (v := .pointer _) rfl hK | exact OpW.assign (v := .string _) rfl hK | exact OpW.assign (v := .agg _) rfl hK | exact OpW.assign (v := .tuple _) rfl hK | exact OpW.assign (v := .func _ _ _) rfl hK)
 | (show OpW _ (.nilCheck _) _ _ _ _; first | exact OpW.nilCheck rfl hK)
 | (show OpW _ (.fieldAddr _ _ _) _ _ _ _; first | exact OpW.fieldAddr rfl hK | exact OpW.fieldAddrS rfl (by assumption) hK)
 | (show OpW _ (.load _ _) _ _ _ _; first | exact OpW.load (v := .int _ _) rfl (Blk.grow (by assumption) hg) rfl hK | exact OpW.load (v := .slice _ _ _) rfl (Blk.grow (by assumption) hg) rfl hK | exact OpW.load (v := .bool _) rfl (Blk.grow (by assumption) hg) rfl hK | exact OpW.load (v := .pointer _) rfl (Blk.grow (by assumption) hg) rfl hK | exact OpW.load (v := .string _) rfl (Blk.grow (by assumption) hg) rfl hK | exact OpW.loadS rfl (Sl.grow (by assumption) hg) (by first | assumption | rfl) hK)
 | (show OpW _ (.binOp .lss _ _ _ _) _ _ _ _; first | exact OpW.lss rfl rfl hK | exact OpW.lssStr rfl rfl hK)
 | (show OpW _ (.binOp .leq _ _ _ _) _ _ _ _; first | exact OpW.leq rfl rfl hK)
 | (show OpW _ (.binOp .gtr _ _ _ _) _ _ _ _; first | exact OpW.gtr rfl rfl hK)
 | (show OpW _ (.binOp .geq _ _ _ _) _ _ _ _; first | exact OpW.geq rfl rfl hK)
 | (show OpW _ (.binOp .eql _ _ _ _) _ _ _ _; first | exact OpW.eqlI rfl rfl hK | exact OpW.eqlP rfl rfl hK | exact OpW.eqlS rfl rfl hK | exact OpW.eqlStr rfl rfl hK | exact OpW.eqlB rfl rfl hK)
 | (show OpW _ (.binOp .neq _ _ _ _) _ _ _ _; first | exact OpW.neqI rfl rfl hK | exact OpW.neqP rfl rfl hK | exact OpW.neqStr rfl rfl hK | exact OpW.neqB rfl rfl hK)
 | (show OpW _ (.binOp .add _ _ _ _) _ _ _ _; first | exact OpW.addI _ rfl rfl ⟨rfl, by omega, by omega⟩ hK | exact OpW.addU _ rfl rfl ⟨rfl, by omega, by omega⟩ hK | exact OpW.addS rfl rfl (by omega) hK)
 | (show OpW _ (.binOp .sub _ _ _ _) _ _ _ _; first | exact OpW.subI _ rfl rfl ⟨rfl, by omega, by omega⟩ hK)
 | (show OpW _ (.binOp .mul _ _ _ _) _ _ _ _; first | exact OpW.mulI _ rfl rfl ⟨rfl, by omega, by omega⟩ hK)
 | (show OpW _ (.convert _ _ _) _ _ _ _; first | exact OpW.convByte rfl hK | exact OpW.convU64 rfl ⟨by omega, by omega⟩ hK | exact OpW.convI64 rfl ⟨by omega, by omega⟩ hK)
 | (show OpW _ (.call ⟨.builtin .len, _, _⟩) _ _ _ _; first | exact OpW.len rfl hK | exact OpW.lenStr rfl hK)
 | (show OpW _ (.call ⟨.builtin .cap, _, _⟩) _ _ _ _; first | exact OpW.cap rfl hK)
 | (show OpW _ (.call ⟨.builtin .min, _, _⟩) _ _ _ _; first | exact OpW.min rfl rfl hK)
 | (show OpW _ (.call ⟨.builtin .max, _, _⟩) _ _ _ _; first | exact OpW.max rfl rfl hK)
 | (show OpW _ (.unOp .not _ _) _ _ _ _; first | exact OpW.notP rfl hK | exact OpW.not rfl hK)
 | (show OpW _ (.extract _ _) _ _ _ _; first | exact OpW.extract (v := .int _ _) rfl rfl hK | exact OpW.extract (v := .bool _) rfl rfl hK | exact OpW.extract (v := .slice _ _ _) rfl rfl hK | exact OpW.extract (v := .pointer _) rfl rfl hK | exact OpW.extract (v := .string _) rfl rfl hK | exact OpW.extract (v := .agg _) rfl rfl hK | exact OpW.extract (v := .tuple _) rfl rfl hK | exact OpW.extract (v := .func _ _ _) rfl rfl hK)
 | (show OpW _ (.pick _ _ _) _ _ _ _; first | exact OpW.pickT (v := .bool _) rfl rfl hK | exact OpW.pickF (v := .bool _) rfl rfl hK)))
    (hn : QL P N ops w0 Q rest (upd e d v)) : QL P N ops w0 Q (⟨some d, op, ty, pos, after, some (j, want)⟩ :: rest) e :=
  QL.gstep hj hn' hd hb hv (fun w hg => ho w hg _ ⟨rfl, rfl⟩) hn
end
end B
end Go.Proofs.YtbcmmamipjbfpaaDoor
