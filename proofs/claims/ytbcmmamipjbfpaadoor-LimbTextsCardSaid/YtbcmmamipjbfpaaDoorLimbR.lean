/- Plain: a number's 32 bytes, the highest first. No conditions. -/
import Derived.Test.YtbcmmamipjbfpaaDoorLimbI
import Derived.Test.YtbcmmamipjbfpaaDoorLimbD
namespace Go.Proofs.YtbcmmamipjbfpaaDoor
namespace B
set_option linter.unusedVariables false
set_option linter.unusedSimpArgs false
set_option maxRecDepth 4000

def by8 (N i : Nat) : UInt8 := UInt8.ofNat (N / 256 ^ i)
/-- A number's bytes, as many as k, the highest first. -/
def beK : Nat → Nat → List UInt8
  | 0, _ => []
  | k + 1, N => beK k (N / 256) ++ [UInt8.ofNat N]
theorem beK_length (k N : Nat) : (beK k N).length = k := by
  induction k generalizing N with
  | zero => rfl
  | succ k ih => rw [beK, List.length_append, ih]; rfl
theorem beK_get (k N j : Nat) (hj : j < k) : (beK k N)[j]? = some (by8 N (k - 1 - j)) := by
  induction k generalizing N with
  | zero => omega
  | succ k ih =>
    rw [beK]
    by_cases h : j < k
    · rw [List.getElem?_append_left (by rw [beK_length]; exact h), ih _ h]
      unfold by8
      rw [Nat.div_div_eq_div_mul, ← Nat.pow_succ', show (k - 1 - j).succ = k + 1 - 1 - j from by omega]
    · obtain rfl : j = k := by omega
      rw [List.getElem?_append_right (by rw [beK_length]; exact Nat.le_refl _), beK_length, Nat.sub_self]
      unfold by8
      rw [show j + 1 - 1 - j = 0 from by omega, Nat.pow_zero, Nat.div_one]
      rfl
theorem numOf_beK (k N : Nat) : numOf (beK k N) = N % 256 ^ k := by
  induction k generalizing N with
  | zero => rw [Nat.pow_zero, Nat.mod_one]; rfl
  | succ k ih =>
    rw [beK, numOf_snoc, ih, Nat.pow_succ', Nat.mod_mul, UInt8.toNat_ofNat']
    omega
theorem beK_numOf (l : List UInt8) : beK l.length (numOf l) = l := by
  obtain ⟨k, hk⟩ : ∃ k, k = l.length := ⟨_, rfl⟩
  induction k generalizing l with
  | zero => rw [List.eq_nil_of_length_eq_zero hk.symm]; rfl
  | succ k ih =>
    have h0 : l ≠ [] := fun h => by rw [h] at hk; cases hk
    obtain ⟨m, c, rfl⟩ : ∃ m c, l = m ++ [c] := ⟨l.dropLast, l.getLast h0, (List.dropLast_concat_getLast h0).symm⟩
    have hm : k = m.length := by simpa using hk
    have hc := c.toNat_lt
    rw [← hk, numOf_snoc, beK, show (256 * numOf m + c.toNat) / 256 = numOf m from by omega]
    have e := ih m hm
    rw [← hm] at e
    rw [e]
    congr 2
    apply UInt8.toNat.inj
    rw [UInt8.toNat_ofNat']
    omega
theorem numOf_append (l m : List UInt8) : numOf (l ++ m) = numOf l * 256 ^ m.length + numOf m := by
  obtain ⟨k, hk⟩ : ∃ k, k = m.length := ⟨_, rfl⟩
  induction k generalizing m with
  | zero => rw [List.eq_nil_of_length_eq_zero hk.symm]; simp [numOf]
  | succ k ih =>
    have h0 : m ≠ [] := fun h => by rw [h] at hk; cases hk
    obtain ⟨m', c, rfl⟩ : ∃ m' c, m = m' ++ [c] := ⟨m.dropLast, m.getLast h0, (List.dropLast_concat_getLast h0).symm⟩
    have hm : k = m'.length := by simpa using hk
    rw [← List.append_assoc, numOf_snoc, ih m' hm, numOf_snoc, List.length_append, List.length_singleton, Nat.pow_succ, ← Nat.mul_assoc]
    omega
theorem numOf_cons (c : UInt8) (l : List UInt8) : numOf (c :: l) = c.toNat * 256 ^ l.length + numOf l := by
  have := numOf_append [c] l
  simpa [numOf] using this
theorem numOf_inj {l m : List UInt8} (h : l.length = m.length) (e : numOf l = numOf m) : l = m := by
  rw [← beK_numOf l, ← beK_numOf m, h, e]
theorem less_num (l m : List UInt8) (h : l.length = m.length) : Op.bytesLess l m = decide (numOf l < numOf m) := by
  induction l generalizing m with
  | nil => cases m with
    | nil => rfl
    | cons b y => cases h
  | cons a x ih => cases m with
    | nil => cases h
    | cons b y =>
      have hl : x.length = y.length := by simpa using h
      rw [Op.bytesLess, ih y hl, numOf_cons, numOf_cons, hl]
      have h1 := numOf_lt x
      have h2 := numOf_lt y
      rw [hl] at h1
      generalize 256 ^ y.length = B at *
      generalize numOf x = p at *
      generalize numOf y = q at *
      rcases Nat.lt_trichotomy a.toNat b.toNat with h3 | h3 | h3
      · have : a < b := h3
        have h4 : (a.toNat + 1) * B ≤ b.toNat * B := Nat.mul_le_mul_right _ h3
        rw [Nat.add_mul, Nat.one_mul] at h4
        rw [decide_eq_true this, Bool.true_or, decide_eq_true (by omega)]
      · have e : a = b := UInt8.toNat.inj h3
        subst e
        have h5 : ¬ a < a := Nat.lt_irrefl a.toNat
        rw [decide_eq_false h5, Bool.false_or, beq_self_eq_true, Bool.true_and]
        by_cases h6 : p < q
        · rw [decide_eq_true h6, decide_eq_true (by omega)]
        · rw [decide_eq_false h6, decide_eq_false (by omega)]
      · have h4 : ¬ a < b := fun h => by have : a.toNat < b.toNat := h; omega
        have h5 : (a == b) = false := by
          rw [beq_eq_false_iff_ne]
          intro h; rw [h] at h3; omega
        have h6 : (b.toNat + 1) * B ≤ a.toNat * B := Nat.mul_le_mul_right _ h3
        rw [Nat.add_mul, Nat.one_mul] at h6
        rw [decide_eq_false h4, h5, Bool.false_and, Bool.or_false, decide_eq_false (by omega)]
theorem m256_pow : m256 = 256 ^ 32 := by decide +kernel
/-- A number's 32 bytes. -/
def beU (N : Nat) : List UInt8 := beK 32 N
theorem beU_length (N : Nat) : (beU N).length = 32 := beK_length 32 N
theorem numOf_beU {N : Nat} (h : N < m256) : numOf (beU N) = N := by
  unfold beU
  rw [numOf_beK, ← m256_pow, Nat.mod_eq_of_lt h]
theorem beU_less {N M : Nat} (hN : N < m256) (hM : M < m256) : Op.bytesLess (beU N) (beU M) = decide (N < M) := by
  rw [less_num _ _ (by rw [beU_length, beU_length]), numOf_beU hN, numOf_beU hM]
theorem num32 {l : List UInt8} (h : l.length = 32) : numOf l < m256 ∧ beU (numOf l) = l := by
  refine ⟨by have := numOf_lt l; rw [h, ← m256_pow] at this; exact this, ?_⟩
  have := beK_numOf l
  rw [h] at this
  exact this
/-- A byte of a part of 64 bits is that of the number. -/
theorem lb_byte (N i : Nat) (hi : i < 32) : UInt8.ofNat (lb N (i / 8) / 2 ^ (8 * (i % 8))) = by8 N i := by
  unfold by8 lb
  rw [← ofNat_mod, ← ofNat_mod (N / 256 ^ i)]
  congr 1
  have hd : (2 ^ (8 * (i % 8)) * 256) ∣ m64 := by
    have e : m64 = 2 ^ (8 * (i % 8)) * 256 * 2 ^ (56 - 8 * (i % 8)) := by
      rw [show (256 : Nat) = 2 ^ 8 from rfl, ← Nat.pow_add, ← Nat.pow_add, show 8 * (i % 8) + 8 + (56 - 8 * (i % 8)) = 64 from by omega]
      rfl
    exact ⟨_, e⟩
  rw [← Nat.mod_mul_right_div_self, Nat.mod_mod_of_dvd _ hd, Nat.mod_mul_right_div_self, Nat.div_div_eq_div_mul]
  congr 2
  rw [show m64 = 2 ^ 64 from rfl, ← Nat.pow_mul, ← Nat.pow_add, show (256 : Nat) = 2 ^ 8 from rfl, ← Nat.pow_mul]
  congr 1
  omega
/-- The bytes, as they stand behind i rounds. -/
def bl (N i : Nat) : List UInt8 := (List.range 32).map fun j => if 31 < i + j then by8 N (31 - j) else 0
theorem bl_length (N i : Nat) : (bl N i).length = 32 := by simp [bl]
theorem bl_get (N i j : Nat) (hj : j < 32) : (bl N i)[j]? = some (if 31 < i + j then by8 N (31 - j) else 0) := by simp [bl, hj]
theorem bl_last (N : Nat) : bl N 32 = beU N := by
  apply List.ext_getElem?
  intro j
  by_cases hj : j < 32
  · rw [bl_get N 32 j hj, if_pos (by omega), beU, beK_get 32 N j hj]
  · rw [List.getElem?_eq_none (by rw [bl_length]; omega), List.getElem?_eq_none (by rw [beU_length]; omega)]
theorem bl_next (N i : Nat) (hi : i < 32) : (bl N i).set (31 - i) (by8 N i) = bl N (i + 1) := by
  apply List.ext_getElem?
  intro j
  rw [List.getElem?_set]
  by_cases hj : j < 32
  · rw [bl_get N i j hj, bl_get N (i + 1) j hj, bl_length]
    by_cases h : 31 - i = j
    · rw [if_pos h, if_pos (by omega), if_pos (by omega), show 31 - j = i from by omega]
    · rw [if_neg h]
      by_cases h2 : 31 < i + j
      · rw [if_pos h2, if_pos (by omega)]
      · rw [if_neg h2, if_neg (by omega)]
  · rw [if_neg (by omega), List.getElem?_eq_none (by rw [bl_length]; omega), List.getElem?_eq_none (by rw [bl_length]; omega)]
end B
end Go.Proofs.YtbcmmamipjbfpaaDoor
