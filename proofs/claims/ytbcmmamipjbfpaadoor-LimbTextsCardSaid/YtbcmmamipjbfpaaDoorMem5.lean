/- Bytes written in place. No conditions. -/
import Derived.Test.YtbcmmamipjbfpaaDoorHeld
namespace Go.Proofs.YtbcmmamipjbfpaaDoor
namespace B
set_option linter.unusedVariables false
set_option linter.unusedSimpArgs false
section
variable {P : Program} {N : Nat} {Q : Post} {e : Env} {w w0 : World} {ty : TypeId} {K : Value → World → Prop}

theorem bvs_set (l : List UInt8) (i : Nat) (u : UInt8) : bvs (l.set i u) = (bvs l).set i (bv u) := by simp [bvs, List.map_set]
theorem xor_u8 (a b : UInt8) : Op.intBits .xor .u8 (a.toNat : Int) (b.toNat : Int) = pure (.int .u8 ((a ^^^ b).toNat : Int)) := by
  have h : (a ^^^ b).toNat = a.toNat ^^^ b.toNat := by simp
  have hlt : a.toNat ^^^ b.toNat < 256 := Nat.xor_lt_two_pow (n := 8) a.toNat_lt b.toNat_lt
  have ha := a.toNat_lt
  have hb := b.toNat_lt
  rw [h]
  have e1 : BitVec.ofInt 8 (a.toNat : Int) = BitVec.ofNat 8 a.toNat := BitVec.ofInt_natCast 8 _
  have e2 : BitVec.ofInt 8 (b.toNat : Int) = BitVec.ofNat 8 b.toNat := BitVec.ofInt_natCast 8 _
  have h3 : (BitVec.ofNat 8 a.toNat ^^^ BitVec.ofNat 8 b.toNat).toNat = a.toNat ^^^ b.toNat := by
    rw [BitVec.toNat_xor, BitVec.toNat_ofNat, BitVec.toNat_ofNat, Nat.mod_eq_of_lt (by omega), Nat.mod_eq_of_lt (by omega)]
  show (pure (Value.int .u8 (IntKind.u8.wrap ((BitVec.ofInt 8 (a.toNat : Int) ^^^ BitVec.ofInt 8 (b.toNat : Int)).toNat : Int))) : Sem Value) = _
  rw [e1, e2, h3]
  congr 2
  unfold IntKind.wrap
  simp [IntKind.signed, IntKind.bits]
  omega
/-- Two bytes, one upon the other. -/
theorem OpW.xorByte {t t' : TypeId} {x y : Operand} {a : UInt8} {j : Int} (b : UInt8) (hx : ev e x = .int .u8 (a.toNat : Int)) (hy : ev e y = .int .u8 j) (hj : j = (b.toNat : Int)) (h : K (.int .u8 ((a ^^^ b).toNat : Int)) w) : OpW P (.binOp .xor t x y t') ty e w K := by
  subst hj
  refine OpW.bits (op := .xor) _ hx hy (by rw [xor_u8]; rfl) (Or.inr (Or.inr rfl)) h

/-- One cell of a slice of the own is written. -/
theorem OpW.storeOwn {t E n cap i : Nat} {x y : Operand} {A : Option Addr} {xs : List Value} {Z : Nat → Prop} {v : Value} [ht : SizeT P t 1] (hx : ev e x = .pointer (at_ A (i * 1))) (hy : ev e y = v) (hv : v.oneCell' = true) (ho : Own w A E 1 n cap xs Z) (hi : i < n)
    (h : ∀ w', Own w' A E 1 n cap (xs.set i v) Z → Chg (fun b => ∃ a, A = some a ∧ a.block = b) w w' → w'.heap.size = w.heap.size → K undef w') : OpW P (.store t x y) ty e w K := by
  obtain ⟨hl, h2 | ⟨g, cur, h1, h2, h3, h4, h5, h6, h7⟩⟩ := ho
  · omega
  · subst h1
    have hcur : i < cur.size := by omega
    refine OpW.store (b := g) (o := i) (c := cur) (E := E) (v := v) (by rw [hx]; simp [at_]) hy hv h3 (by unfold Nat.blt; exact Nat.ble_eq_true_of_le hcur) rfl ?_
    intro w' hp hb
    refine h w' ⟨by simpa using hl, Or.inr ⟨g, _, rfl, h2, hb, h4, h5, by simpa using h6, ?_⟩⟩ (hp.chg.mono fun k _ hk => ⟨_, rfl, hk.symm⟩) hp.size
    rw [← h7]
    have : ∀ (l : List Value) (n i : Nat), (l.set i v).take n = (l.take n).set i v := by
      intro l
      induction l with
      | nil => intro n i; simp
      | cons u l ih => intro n i; cases n <;> cases i <;> simp [ih]
    simp [this]
end
end B
end Go.Proofs.YtbcmmamipjbfpaaDoor
