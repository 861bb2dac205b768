/- Plain: what is put is taken again. -/
import Derived.Test.YtlofcomnhecgfaaOpenOp
import Derived.Test.YtlofcomnhecgfaaOpen2
namespace Go.Proofs.Ytlofcomnhecgfaa
namespace B
set_option linter.unusedVariables false

def encOp (o : Op2) : List UInt8 :=
  if o.kind = 1 then beN o.n else if o.kind = 2 ∨ o.kind = 3 then be4 (fld o.b).length ++ fld o.b else if o.kind = 4 then [if o.y then 1 else 0] else []

theorem u8_toNat (n : Nat) : (UInt8.ofNat n).toNat = n % 256 := by simp
theorem numOf_beN (n : Nat) (h : n < 18446744073709551616) : numOf (beN n) = n := by
  simp only [numOf, beN, List.foldl_cons, List.foldl_nil, u8_toNat]
  have e1 : n / 2 ^ 48 = n / 2 ^ 56 * 256 + n / 2 ^ 48 % 256 := by omega
  have e2 : n / 2 ^ 40 = n / 2 ^ 48 * 256 + n / 2 ^ 40 % 256 := by omega
  have e3 : n / 2 ^ 32 = n / 2 ^ 40 * 256 + n / 2 ^ 32 % 256 := by omega
  have e4 : n / 2 ^ 24 = n / 2 ^ 32 * 256 + n / 2 ^ 24 % 256 := by omega
  have e5 : n / 2 ^ 16 = n / 2 ^ 24 * 256 + n / 2 ^ 16 % 256 := by omega
  have e6 : n / 2 ^ 8 = n / 2 ^ 16 * 256 + n / 2 ^ 8 % 256 := by omega
  have e7 : n = n / 2 ^ 8 * 256 + n % 256 := by omega
  have e0 : n / 2 ^ 56 % 256 = n / 2 ^ 56 := by omega
  omega
theorem numOf_be4 (n : Nat) (h : n ≤ 65535) : numOf (be4 n) = n := by
  simp only [numOf, be4, List.foldl_cons, List.foldl_nil, u8_toNat]
  have : (0 : UInt8).toNat = 0 := rfl
  rw [this]
  omega
theorem rN_put (n : Nat) (h : n < 18446744073709551616) (rest : List UInt8) : rN (beN n ++ rest, 0) = (n, (rest, 0)) := by
  have h1 : rNum (beN n ++ rest, 0) 0 8 = (n, true, (beN n ++ rest, 0)) := by
    unfold rNum
    rw [if_neg (by simp), if_neg (by simp [beN_length])]
    rw [List.drop_zero, show (beN n ++ rest).take 8 = beN n from List.take_left' rfl, numOf_beN n h]
  unfold rN
  rw [h1]
  simp only [if_true]
  rw [show (beN n ++ rest).drop 8 = rest from List.drop_left' rfl]
theorem rB_put (f : List UInt8) (h : f.length ≤ 65535) (rest : List UInt8) : rB (be4 f.length ++ f ++ rest, 0) = (f, (rest, 0)) := by
  have h0 : (be4 f.length ++ f ++ rest).length = 4 + f.length + rest.length := by simp [be4_length]; omega
  have h1 : rNum (be4 f.length ++ f ++ rest, 0) 0 4 = (f.length, true, (be4 f.length ++ f ++ rest, 0)) := by
    unfold rNum
    rw [if_neg (by simp), if_neg (by rw [h0]; simp; omega)]
    rw [List.drop_zero, List.append_assoc, show (be4 f.length ++ (f ++ rest)).take 4 = be4 f.length from List.take_left' rfl, numOf_be4 _ h]
  have h2 : rNum (be4 f.length ++ f ++ rest, 0) (4 + f.length) 0 = (0, true, (be4 f.length ++ f ++ rest, 0)) := by
    unfold rNum
    rw [if_neg (by simp), if_neg (by rw [h0]; simp)]
    simp [numOf]
  unfold rB
  rw [h1]
  simp only [if_true]
  rw [if_neg (by omega), h2]
  simp only [if_true]
  have e1 : ((be4 f.length ++ f ++ rest).drop 4) = f ++ rest := by rw [List.append_assoc]; exact List.drop_left' rfl
  have e2 : ((be4 f.length ++ f ++ rest).drop (4 + f.length)) = rest := List.drop_left' (by simp [be4_length])
  rw [e2]
  simp [be4]
theorem rF_put (y : Bool) (rest : List UInt8) : rF ([if y then 1 else 0] ++ rest, 0) = (y, (rest, 0)) := by
  unfold rF rNum
  cases y <;> simp [numOf]
end B
end Go.Proofs.Ytlofcomnhecgfaa
