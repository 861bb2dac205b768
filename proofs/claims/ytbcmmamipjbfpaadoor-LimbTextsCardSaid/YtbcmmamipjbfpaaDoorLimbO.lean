/- Plain: the number that a text of digits is. No conditions. -/
import Derived.Test.YtbcmmamipjbfpaaDoorLimbN
namespace Go.Proofs.YtbcmmamipjbfpaaDoor
namespace B
set_option linter.unusedVariables false
set_option linter.unusedSimpArgs false
set_option maxRecDepth 4000

def dgt (c : UInt8) : Prop := 48 ≤ c.toNat ∧ c.toNat ≤ 57
instance (c : UInt8) : Decidable (dgt c) := by unfold dgt; infer_instance
def numD (l : List UInt8) : Nat := l.foldl (fun x c => 10 * x + (c.toNat - 48)) 0
theorem numD_snoc (l : List UInt8) (c : UInt8) : numD (l ++ [c]) = 10 * numD l + (c.toNat - 48) := by simp [numD, List.foldl_append]
def parseN (s : List UInt8) : Nat × Int :=
  if s = [] ∨ s.head? = some 48 ∧ s ≠ [48] then (0, 11)
  else if (∀ c ∈ s, dgt c) then (if numD s < m256 then (numD s, 0) else (0, 10)) else (0, 11)
theorem parseN_lt (s : List UInt8) : (parseN s).1 < m256 := by
  unfold parseN
  split
  · decide
  · split
    · split
      · assumption
      · decide
    · decide
theorem numD_le (l m : List UInt8) : numD l ≤ numD (l ++ m) := by
  suffices h : ∀ (m : List UInt8) (x : Nat), x ≤ m.foldl (fun x c => 10 * x + (c.toNat - 48)) x by
    unfold numD
    rw [List.foldl_append]
    exact h m _
  intro m
  induction m with
  | nil => intro x; exact Nat.le_refl _
  | cons c m ih => intro x; exact Nat.le_trans (show x ≤ 10 * x + (c.toNat - 48) by omega) (ih _)
theorem take_snoc {s : List UInt8} {i : Nat} {c : UInt8} (h : s[i]? = some c) : s.take (i + 1) = s.take i ++ [c] := by
  obtain ⟨hl, hv⟩ := List.getElem?_eq_some_iff.1 h
  rw [List.take_succ_eq_append_getElem hl, hv]
/-- A text of digits, read back. -/
theorem numD_digits (n : Nat) : numD (Lib.decDigits n) = n ∧ ∀ c ∈ Lib.decDigits n, dgt c := by
  induction n using Nat.strongRecOn with
  | _ n ih =>
    have hd : ∀ d, d < 10 → (UInt8.ofNat (48 + d)).toNat = 48 + d := fun d hd => by
      rw [UInt8.toNat_ofNat']; omega
    by_cases h : n < 10
    · rw [Lib.decDigits_one h]
      have := hd n h
      refine ⟨by simp [numD]; omega, fun c hc => ?_⟩
      obtain rfl : c = UInt8.ofNat (48 + n) := by simpa using hc
      unfold dgt
      omega
    · obtain ⟨h1, h2⟩ := ih (n / 10) (by omega)
      rw [Lib.decDigits, dif_neg h]
      have := hd (n % 10) (by omega)
      refine ⟨by rw [numD_snoc, h1, this]; omega, fun c hc => ?_⟩
      rw [List.mem_append] at hc
      rcases hc with hc | hc
      · exact h2 c hc
      · obtain rfl : c = UInt8.ofNat (48 + n % 10) := by simpa using hc
        unfold dgt
        omega
theorem digits_ne (n : Nat) : Lib.decDigits n ≠ [] := by
  intro h
  have := Lib.decDigits_length n
  have := Lib.nDigits_pos n
  rw [h] at *
  simp at *
  omega
theorem digits_head (n : Nat) (h : (Lib.decDigits n).head? = some 48) : n = 0 := by
  induction n using Nat.strongRecOn with
  | _ n ih =>
    by_cases h1 : n < 10
    · rw [Lib.decDigits_one h1] at h
      simp only [List.head?_cons, Option.some.injEq] at h
      have := congrArg UInt8.toNat h
      rw [UInt8.toNat_ofNat'] at this
      have e : (48 : UInt8).toNat = 48 := rfl
      omega
    · rw [Lib.decDigits, dif_neg h1, List.head?_append] at h
      have hne := digits_ne (n / 10)
      cases hq : Lib.decDigits (n / 10) with
      | nil => exact absurd hq hne
      | cons c l =>
        have := ih (n / 10) (by omega) (by rw [hq] at h ⊢; simpa using h)
        omega
theorem parseN_digits (n : Nat) (hn : n < m256) : parseN (Lib.decDigits n) = (n, 0) := by
  obtain ⟨h1, h2⟩ := numD_digits n
  unfold parseN
  rw [if_neg, if_pos h2, h1, if_pos hn]
  rintro (h | ⟨h3, h4⟩)
  · exact digits_ne n h
  · have := digits_head n h3
    subst this
    exact h4 (by rw [Lib.decDigits_one (by decide)]; rfl)
/-- Two texts of digits that are one number, without zeros ahead, are one text. -/
theorem digits_of (s : List UInt8) (h0 : s ≠ []) (h1 : s.head? = some 48 → s = [48]) (h2 : ∀ c ∈ s, dgt c) : Lib.decDigits (numD s) = s := by
  obtain ⟨k, hk⟩ : ∃ k, k = s.length := ⟨_, rfl⟩
  induction k generalizing s with
  | zero => exact absurd (List.eq_nil_of_length_eq_zero hk.symm) h0
  | succ k ih =>
    obtain ⟨l, c, rfl⟩ : ∃ l c, s = l ++ [c] := ⟨s.dropLast, s.getLast h0, (List.dropLast_concat_getLast h0).symm⟩
    have hc := h2 c (by simp)
    unfold dgt at hc
    have hce : UInt8.ofNat (48 + (c.toNat - 48)) = c := by
      apply UInt8.toNat.inj
      rw [UInt8.toNat_ofNat']
      have := c.toNat_lt
      omega
    rw [numD_snoc]
    by_cases hl : l = []
    · subst hl
      have e : 10 * numD [] + (c.toNat - 48) = c.toNat - 48 := by simp [numD]
      rw [e, Lib.decDigits_one (by omega), hce]
      rfl
    · have hl0 : l.head? ≠ some 48 := by
        intro h
        have := h1 (by rw [List.head?_append, h]; rfl)
        cases l with
        | nil => exact hl rfl
        | cons a l => cases l <;> simp at this
      have hl2 := ih l hl (fun h => absurd h hl0) (fun c hc => h2 c (by simp [hc])) (by simpa using hk)
      have hpos : 0 < numD l := by
        rcases Nat.eq_zero_or_pos (numD l) with h | h
        · rw [h, Lib.decDigits_one (by decide)] at hl2
          exact absurd (by rw [← hl2]; rfl) hl0
        · exact h
      rw [Lib.decDigits, dif_neg (by omega), show (10 * numD l + (c.toNat - 48)) / 10 = numD l from by omega, show (10 * numD l + (c.toNat - 48)) % 10 = c.toNat - 48 from by omega, hl2, hce]
end B
end Go.Proofs.YtbcmmamipjbfpaaDoor
