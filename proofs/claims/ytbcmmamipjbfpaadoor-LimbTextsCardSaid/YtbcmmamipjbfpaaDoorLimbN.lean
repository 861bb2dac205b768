/- limb.Print: of a whole number below 2^256, its decimal digits. Condition: the library's table of powers of ten as the text lays it. -/
import Derived.Test.YtbcmmamipjbfpaaDoorLimbM
namespace Go.Proofs.YtbcmmamipjbfpaaDoor
namespace B
set_option linter.unusedVariables false
set_option linter.unusedSimpArgs false
set_option maxRecDepth 4000

/-- A number's digits, as many as k. -/
def padk : Nat → Nat → List UInt8
  | 0, _ => []
  | k + 1, r => padk k (r / 10) ++ [UInt8.ofNat (48 + r % 10)]
theorem padk_length (k r : Nat) : (padk k r).length = k := by
  induction k generalizing r with
  | zero => rfl
  | succ k ih => rw [padk, List.length_append, ih]; rfl
theorem digits_split (k n r : Nat) (hn : 0 < n) (hr : r < 10 ^ k) : Lib.decDigits (n * 10 ^ k + r) = Lib.decDigits n ++ padk k r := by
  induction k generalizing r with
  | zero =>
    have : r = 0 := by simpa using hr
    subst this
    simp [padk]
  | succ k ih =>
    rw [Nat.pow_succ] at hr ⊢
    have hp : 0 < 10 ^ k := Nat.pow_pos (by decide)
    have h1 : ¬ n * (10 ^ k * 10) + r < 10 := by
      have : 1 * (10 ^ k * 10) ≤ n * (10 ^ k * 10) := Nat.mul_le_mul_right _ hn
      omega
    have h2 : (n * (10 ^ k * 10) + r) / 10 = n * 10 ^ k + r / 10 := by
      rw [← Nat.mul_assoc]; omega
    have h3 : (n * (10 ^ k * 10) + r) % 10 = r % 10 := by
      rw [← Nat.mul_assoc]; omega
    rw [Lib.decDigits, dif_neg h1, h2, h3, ih _ (by omega), padk, List.append_assoc]
theorem nDigits_le (k u : Nat) (h : u < 10 ^ (k + 1)) : Lib.nDigits u ≤ k + 1 := by
  induction k generalizing u with
  | zero => rw [Lib.nDigits_small (by simpa using h)]; omega
  | succ k ih =>
    by_cases h1 : u < 10
    · rw [Lib.nDigits_small h1]; omega
    · rw [Lib.nDigits_big h1]
      have := ih (u / 10) (by rw [Nat.pow_succ] at h; omega)
      omega
theorem rep_snoc (j : Nat) (a : UInt8) (l : List UInt8) : a :: (List.replicate j a ++ l) = List.replicate (j + 1) a ++ l := by
  rw [List.replicate_succ, List.cons_append]
theorem pad_zero (k : Nat) : padk k 0 = List.replicate k 48 := by
  induction k with
  | zero => rfl
  | succ k ih =>
    rw [padk, ih, List.replicate_succ']
    rfl
theorem pad_digits (k r : Nat) (hr : r < 10 ^ k) (hk : 0 < k) : padk k r = List.replicate (k - Lib.nDigits r) 48 ++ Lib.decDigits r := by
  induction k generalizing r with
  | zero => omega
  | succ k ih =>
    rw [padk]
    by_cases h : r < 10
    · rw [Lib.decDigits_one h, Lib.nDigits_small h, Nat.div_eq_of_lt h, Nat.mod_eq_of_lt h, pad_zero, Nat.add_sub_cancel]
    · rw [Lib.decDigits, dif_neg h, Lib.nDigits_big h]
      have hk' : 0 < k := by
        rcases Nat.eq_zero_or_pos k with rfl | h'
        · exact absurd (by simpa using hr) h
        · exact h'
      rw [ih (r / 10) (by rw [Nat.pow_succ] at hr; omega) hk', List.append_assoc]
      congr 2
      omega
theorem dig78 (N : Nat) (hN : N < m256) : (Lib.decDigits N).length ≤ 78 := by
  rw [Lib.decDigits_length]
  exact nDigits_le 77 N (Nat.lt_trans hN (by decide))
attribute [local irreducible] OpW WL CW Ret Sl Blk thn blk outOf
set_option linter.unusedVariables false
set_option linter.unusedSimpArgs false
theorem Print31 (N : Nat) (hN : N < m256) (w : World) (ht : Tab w) : Ret Tryd.prog 31 #[uv N] w fun v w' => v = .string (bstr (Lib.decDigits N)) ∧ Grow w w' := by
  refine Ret.enter (fn := Tryd.f31) (N := 28) Tryd.func31 rfl Tryd.ntmps31 rfl ?_
  repeat (first | refine WL.nil ?_ | refine WL.auto (h := ?_) | refine WL.gskip rfl rfl rfl rfl ?_ | refine WL.gauto (h := ?_) | (refine CW.seq ?_; intro K hK) | refine CW.block ?_ | refine CW.region ?_ | refine CW.skip ?_ | refine CW.exit ?_ | refine CW.ret ?_ | (refine thn_ret (K := K) ?_; clear hK K) | refine thn_ret ?_ | refine blk_ret ?_ | (refine thn_exit (K := K) ?_; clear hK K) | refine thn_exit ?_ | refine blk_here ?_ | refine blk_past rfl ?_ | refine thn_norm ?_ | refine blk_norm ?_ | refine CW.condT rfl ?_ | refine CW.condF rfl ?_ | (refine hK _ _ ?_; clear hK K))
  first | refine WL.step rfl ?_ | refine WL.gstep rfl rfl rfl rfl ?_
  refine OpW.box (v := uv N) rfl ?_
  intro b1 w1 n1
  have hb1 : Blk w1 b1 (uc (lb N)) 24 := n1.blk
  have g1 := n1.grow
  have f1 := n1.fresh
  have l1 := n1.blk.lt
  clear n1
  have h78 := dig78 N hN
  repeat (first | refine WL.nil ?_ | refine WL.auto (h := ?_) | refine WL.gskip rfl rfl rfl rfl ?_ | refine WL.gauto (h := ?_) | (refine CW.seq ?_; intro K hK) | refine CW.block ?_ | refine CW.region ?_ | refine CW.skip ?_ | refine CW.exit ?_ | refine CW.ret ?_ | (refine thn_ret (K := K) ?_; clear hK K) | refine thn_ret ?_ | refine blk_ret ?_ | (refine thn_exit (K := K) ?_; clear hK K) | refine thn_exit ?_ | refine blk_here ?_ | refine blk_past rfl ?_ | refine thn_norm ?_ | refine blk_norm ?_ | refine CW.condT rfl ?_ | refine CW.condF rfl ?_ | (refine hK _ _ ?_; clear hK K))
  refine CW.loop (fun n' e w3 => ∃ A s, n' = A ∧ A < m256 ∧ Lib.decDigits N = Lib.decDigits A ++ s ∧ Blk w3 b1 (uc (lb A)) 24 ∧ Grow w w3 ∧ ∃ e0, e = upd (upd e0 1 (.pointer (some ⟨b1, 0, none⟩))) 3 (.string (bstr s))) N ?_ ?_
  · exact ⟨N, [], rfl, hN, (List.append_nil _).symm, hb1, g1, rep2 rfl rfl⟩
  clear hb1 l1 g1 
  rintro A e w3 ⟨_, s, rfl, hA, hs, hb1, g3, e0, rfl⟩ KJ hJ
  have hlen := congrArg List.length hs
  rw [List.length_append] at hlen
  obtain ⟨q, hq⟩ : ∃ q, q = A / 1000000000000000000 := ⟨_, rfl⟩
  obtain ⟨r, hr⟩ : ∃ r, r = A % 1000000000000000000 := ⟨_, rfl⟩
  have hd : divN A 1000000000000000000 = (q, r) := by rw [hq, hr]; rfl
  have hqm : q < m256 := Nat.lt_of_le_of_lt (by rw [hq]; exact Nat.div_le_self _ _) hA
  have hAe : A = q * 10 ^ 18 + r := by omega
  have hr18 : r < 10 ^ 18 := by omega
  repeat (first | refine WL.nil ?_ | refine WL.auto (h := ?_) | refine WL.gskip rfl rfl rfl rfl ?_ | refine WL.gauto (h := ?_) | (refine CW.seq ?_; intro K hK) | refine CW.block ?_ | refine CW.region ?_ | refine CW.skip ?_ | refine CW.exit ?_ | refine CW.ret ?_ | (refine thn_ret (K := K) ?_; clear hK K) | refine thn_ret ?_ | refine blk_ret ?_ | (refine thn_exit (K := K) ?_; clear hK K) | refine thn_exit ?_ | refine blk_here ?_ | refine blk_past rfl ?_ | refine thn_norm ?_ | refine blk_norm ?_ | refine CW.condT rfl ?_ | refine CW.condF rfl ?_ | (refine hK _ _ ?_; clear hK K))
  first | refine WL.step rfl ?_ | refine WL.gstep rfl rfl rfl rfl ?_
  refine OpW.loadAgg (uc (lb A)).toList rfl hb1 rfl rfl ?_
  repeat (first | refine WL.nil ?_ | refine WL.auto (h := ?_) | refine WL.gskip rfl rfl rfl rfl ?_ | refine WL.gauto (h := ?_) | (refine CW.seq ?_; intro K hK) | refine CW.block ?_ | refine CW.region ?_ | refine CW.skip ?_ | refine CW.exit ?_ | refine CW.ret ?_ | (refine thn_ret (K := K) ?_; clear hK K) | refine thn_ret ?_ | refine blk_ret ?_ | (refine thn_exit (K := K) ?_; clear hK K) | refine thn_exit ?_ | refine blk_here ?_ | refine blk_past rfl ?_ | refine thn_norm ?_ | refine blk_norm ?_ | refine CW.condT rfl ?_ | refine CW.condF rfl ?_ | (refine hK _ _ ?_; clear hK K))
  first | refine WL.step rfl ?_ | refine WL.gstep rfl rfl rfl rfl ?_
  refine OpW.call ((Div26 A 1000000000000000000 hA (by decide) w3).mono ?_) rfl
  rintro v w4 ⟨rfl, g4⟩
  rw [hd]
  repeat (first | refine WL.nil ?_ | refine WL.auto (h := ?_) | refine WL.gskip rfl rfl rfl rfl ?_ | refine WL.gauto (h := ?_) | (refine CW.seq ?_; intro K hK) | refine CW.block ?_ | refine CW.region ?_ | refine CW.skip ?_ | refine CW.exit ?_ | refine CW.ret ?_ | (refine thn_ret (K := K) ?_; clear hK K) | refine thn_ret ?_ | refine blk_ret ?_ | (refine thn_exit (K := K) ?_; clear hK K) | refine thn_exit ?_ | refine blk_here ?_ | refine blk_past rfl ?_ | refine thn_norm ?_ | refine blk_norm ?_ | refine CW.condT rfl ?_ | refine CW.condF rfl ?_ | (refine hK _ _ ?_; clear hK K))
  first | refine WL.step rfl ?_ | refine WL.gstep rfl rfl rfl rfl ?_
  refine OpW.alloc (fun b4 w5 n5 => ?_)
  have hb4 : Blk w5 b4 (uc fun _ => 0) 24 := n5.blk
  have hb1' := (hb1.grow g4).grow n5.grow
  have f5 := n5.fresh
  have l1' := (hb1.grow g4).lt
  have z3 := g3.size
  have z4 := g4.size
  repeat (first | refine WL.nil ?_ | refine WL.auto (h := ?_) | refine WL.gskip rfl rfl rfl rfl ?_ | refine WL.gauto (h := ?_) | (refine CW.seq ?_; intro K hK) | refine CW.block ?_ | refine CW.region ?_ | refine CW.skip ?_ | refine CW.exit ?_ | refine CW.ret ?_ | (refine thn_ret (K := K) ?_; clear hK K) | refine thn_ret ?_ | refine blk_ret ?_ | (refine thn_exit (K := K) ?_; clear hK K) | refine thn_exit ?_ | refine blk_here ?_ | refine blk_past rfl ?_ | refine thn_norm ?_ | refine blk_norm ?_ | refine CW.condT rfl ?_ | refine CW.condF rfl ?_ | (refine hK _ _ ?_; clear hK K))
  refine WL.step0 ?_
  refine OpW.storeAll (d := uc (lb q)) rfl rfl rfl hb4 rfl rfl (fun w6 p6 hb => ?_)
  replace hb1' := hb1'.keep p6.chg (fun e : b1 = b4 => by omega)
  have g6 := ((g3.then g4).then n5.grow).chgNew p6.chg (fun i hi e => by omega)
  repeat (first | refine WL.nil ?_ | refine WL.auto (h := ?_) | refine WL.gskip rfl rfl rfl rfl ?_ | refine WL.gauto (h := ?_) | (refine CW.seq ?_; intro K hK) | refine CW.block ?_ | refine CW.region ?_ | refine CW.skip ?_ | refine CW.exit ?_ | refine CW.ret ?_ | (refine thn_ret (K := K) ?_; clear hK K) | refine thn_ret ?_ | refine blk_ret ?_ | (refine thn_exit (K := K) ?_; clear hK K) | refine thn_exit ?_ | refine blk_here ?_ | refine blk_past rfl ?_ | refine thn_norm ?_ | refine blk_norm ?_ | refine CW.condT rfl ?_ | refine CW.condF rfl ?_ | (refine hK _ _ ?_; clear hK K))
  first | refine WL.step rfl ?_ | refine WL.gstep rfl rfl rfl rfl ?_
  refine OpW.call ((Format40 r (by unfold m64; omega) w6 (ht.grow g6)).mono ?_) rfl
  rintro v w7 ⟨rfl, g7⟩
  repeat (first | refine WL.nil ?_ | refine WL.auto (h := ?_) | refine WL.gskip rfl rfl rfl rfl ?_ | refine WL.gauto (h := ?_) | (refine CW.seq ?_; intro K hK) | refine CW.block ?_ | refine CW.region ?_ | refine CW.skip ?_ | refine CW.exit ?_ | refine CW.ret ?_ | (refine thn_ret (K := K) ?_; clear hK K) | refine thn_ret ?_ | refine blk_ret ?_ | (refine thn_exit (K := K) ?_; clear hK K) | refine thn_exit ?_ | refine blk_here ?_ | refine blk_past rfl ?_ | refine thn_norm ?_ | refine blk_norm ?_ | refine CW.condT rfl ?_ | refine CW.condF rfl ?_ | (refine hK _ _ ?_; clear hK K))
  first | refine WL.step rfl ?_ | refine WL.gstep rfl rfl rfl rfl ?_
  refine OpW.loadAgg (uc (lb q)).toList rfl (hb.grow g7) rfl rfl ?_
  repeat (first | refine WL.nil ?_ | refine WL.auto (h := ?_) | refine WL.gskip rfl rfl rfl rfl ?_ | refine WL.gauto (h := ?_) | (refine CW.seq ?_; intro K hK) | refine CW.block ?_ | refine CW.region ?_ | refine CW.skip ?_ | refine CW.exit ?_ | refine CW.ret ?_ | (refine thn_ret (K := K) ?_; clear hK K) | refine thn_ret ?_ | refine blk_ret ?_ | (refine thn_exit (K := K) ?_; clear hK K) | refine thn_exit ?_ | refine blk_here ?_ | refine blk_past rfl ?_ | refine thn_norm ?_ | refine blk_norm ?_ | refine CW.condT rfl ?_ | refine CW.condF rfl ?_ | (refine hK _ _ ?_; clear hK K))
  first | refine WL.step rfl ?_ | refine WL.gstep rfl rfl rfl rfl ?_
  refine OpW.call ((Zero23 q hqm w7).mono ?_) rfl
  rintro v w8 ⟨rfl, g8⟩
  repeat (first | refine WL.nil ?_ | refine WL.auto (h := ?_) | refine WL.gskip rfl rfl rfl rfl ?_ | refine WL.gauto (h := ?_) | (refine CW.seq ?_; intro K hK) | refine CW.block ?_ | refine CW.region ?_ | refine CW.skip ?_ | refine CW.exit ?_ | refine CW.ret ?_ | (refine thn_ret (K := K) ?_; clear hK K) | refine thn_ret ?_ | refine blk_ret ?_ | (refine thn_exit (K := K) ?_; clear hK K) | refine thn_exit ?_ | refine blk_here ?_ | refine blk_past rfl ?_ | refine thn_norm ?_ | refine blk_norm ?_ | refine CW.condT rfl ?_ | refine CW.condF rfl ?_ | (refine hK _ _ ?_; clear hK K))
  refine CW.condP rfl (fun h1 => ?_) (fun h1 => ?_)
  · have e1 : r = A := by rw [hAe, h1]; omega
    rw [e1]
    repeat (first | refine WL.nil ?_ | refine WL.auto (h := ?_) | refine WL.gskip rfl rfl rfl rfl ?_ | refine WL.gauto (h := ?_) | (refine CW.seq ?_; intro K hK) | refine CW.block ?_ | refine CW.region ?_ | refine CW.skip ?_ | refine CW.exit ?_ | refine CW.ret ?_ | (refine thn_ret (K := K) ?_; clear hK K) | refine thn_ret ?_ | refine blk_ret ?_ | (refine thn_exit (K := K) ?_; clear hK K) | refine thn_exit ?_ | refine blk_here ?_ | refine blk_past rfl ?_ | refine thn_norm ?_ | refine blk_norm ?_ | refine CW.condT rfl ?_ | refine CW.condF rfl ?_ | (refine hK _ _ ?_; clear hK K))
    refine out1 (v := .string (bstr (Lib.decDigits A ++ s))) Tryd.results31 rfl ⟨by rw [hs], (g6.then g7).then g8⟩ (Or.inr rfl)
  have hr1 : Lib.nDigits r ≤ 18 := nDigits_le 17 r hr18
  have hsp := digits_split 18 q r (by omega) hr18
  rw [← hAe] at hsp
  have hpd := pad_digits 18 r hr18 (by decide)
  have hld := Lib.decDigits_length r
  have hlp := padk_length 18 r
  have hlA := congrArg List.length hsp
  rw [List.length_append, hlp] at hlA
  repeat (first | refine WL.nil ?_ | refine WL.auto (h := ?_) | refine WL.gskip rfl rfl rfl rfl ?_ | refine WL.gauto (h := ?_) | (refine CW.seq ?_; intro K hK) | refine CW.block ?_ | refine CW.region ?_ | refine CW.skip ?_ | refine CW.exit ?_ | refine CW.ret ?_ | (refine thn_ret (K := K) ?_; clear hK K) | refine thn_ret ?_ | refine blk_ret ?_ | (refine thn_exit (K := K) ?_; clear hK K) | refine thn_exit ?_ | refine blk_here ?_ | refine blk_past rfl ?_ | refine thn_norm ?_ | refine blk_norm ?_ | refine CW.condT rfl ?_ | refine CW.condF rfl ?_ | (refine hK _ _ ?_; clear hK K))
  have key : ∀ e0, K (upd (upd (upd (upd e0 1 (.pointer (some ⟨b1, 0, none⟩))) 3 (.string (bstr s))) 4 (.pointer (some ⟨b4, 0, none⟩))) 6 (.string (bstr (padk 18 r)))) w8 := by
    intro e0
    refine hK _ _ ?_
    clear hK
    repeat (first | refine WL.nil ?_ | refine WL.auto (h := ?_) | refine WL.gskip rfl rfl rfl rfl ?_ | refine WL.gauto (h := ?_) | (refine CW.seq ?_; intro K hK) | refine CW.block ?_ | refine CW.region ?_ | refine CW.skip ?_ | refine CW.exit ?_ | refine CW.ret ?_ | (refine thn_ret (K := K) ?_; clear hK K) | refine thn_ret ?_ | refine blk_ret ?_ | (refine thn_exit (K := K) ?_; clear hK K) | refine thn_exit ?_ | refine blk_here ?_ | refine blk_past rfl ?_ | refine thn_norm ?_ | refine blk_norm ?_ | refine CW.condT rfl ?_ | refine CW.condF rfl ?_ | (refine hK _ _ ?_; clear hK K))
    first | refine WL.step rfl ?_ | refine WL.gstep rfl rfl rfl rfl ?_
    refine OpW.loadAgg (uc (lb q)).toList rfl ((hb.grow g7).grow g8) rfl rfl ?_
    repeat (first | refine WL.nil ?_ | refine WL.auto (h := ?_) | refine WL.gskip rfl rfl rfl rfl ?_ | refine WL.gauto (h := ?_) | (refine CW.seq ?_; intro K hK) | refine CW.block ?_ | refine CW.region ?_ | refine CW.skip ?_ | refine CW.exit ?_ | refine CW.ret ?_ | (refine thn_ret (K := K) ?_; clear hK K) | refine thn_ret ?_ | refine blk_ret ?_ | (refine thn_exit (K := K) ?_; clear hK K) | refine thn_exit ?_ | refine blk_here ?_ | refine blk_past rfl ?_ | refine thn_norm ?_ | refine blk_norm ?_ | refine CW.condT rfl ?_ | refine CW.condF rfl ?_ | (refine hK _ _ ?_; clear hK K))
    refine WL.step0 ?_
    refine OpW.storeAll (d := uc (lb q)) rfl rfl rfl ((hb1'.grow g7).grow g8) rfl rfl (fun w9 p9 hb9 => ?_)
    repeat (first | refine WL.nil ?_ | refine WL.auto (h := ?_) | refine WL.gskip rfl rfl rfl rfl ?_ | refine WL.gauto (h := ?_) | (refine CW.seq ?_; intro K hK) | refine CW.block ?_ | refine CW.region ?_ | refine CW.skip ?_ | refine CW.exit ?_ | refine CW.ret ?_ | (refine thn_ret (K := K) ?_; clear hK K) | refine thn_ret ?_ | refine blk_ret ?_ | (refine thn_exit (K := K) ?_; clear hK K) | refine thn_exit ?_ | refine blk_here ?_ | refine blk_past rfl ?_ | refine thn_norm ?_ | refine blk_norm ?_ | refine CW.condT rfl ?_ | refine CW.condF rfl ?_ | (refine hK _ _ ?_; clear hK K))
    refine hJ q _ _ ?_ ⟨q, padk 18 r ++ s, rfl, hqm, by rw [← List.append_assoc, ← hsp, hs], hb9, ((g6.then g7).then g8).chgNew p9.chg (fun i hi e => by omega), rep2 rfl rfl⟩
    omega
  clear hK
  refine CW.loop (fun n' e w => w8 = w ∧ ∃ j, j + Lib.nDigits r ≤ 18 ∧ n' = 18 - j ∧ ∃ e0, e = upd (upd (upd (upd e0 1 (.pointer (some ⟨b1, 0, none⟩))) 3 (.string (bstr s))) 4 (.pointer (some ⟨b4, 0, none⟩))) 6 (.string (bstr (List.replicate j 48 ++ Lib.decDigits r)))) 18 ?_ ?_
  · exact ⟨rfl, 0, by omega, rfl, rep4 rfl rfl rfl rfl⟩
  rintro n' e _ ⟨rfl, j, hj, rfl, e0, rfl⟩ KJ hJ2
  have hlj : (List.replicate j (48 : UInt8) ++ Lib.decDigits r).length = j + Lib.nDigits r := by rw [List.length_append, List.length_replicate, hld]
  repeat (first | refine WL.nil ?_ | refine WL.auto (h := ?_) | refine WL.gskip rfl rfl rfl rfl ?_ | refine WL.gauto (h := ?_) | (refine CW.seq ?_; intro K hK) | refine CW.block ?_ | refine CW.region ?_ | refine CW.skip ?_ | refine CW.exit ?_ | refine CW.ret ?_ | (refine thn_ret (K := K) ?_; clear hK K) | refine thn_ret ?_ | refine blk_ret ?_ | (refine thn_exit (K := K) ?_; clear hK K) | refine thn_exit ?_ | refine blk_here ?_ | refine blk_past rfl ?_ | refine thn_norm ?_ | refine blk_norm ?_ | refine CW.condT rfl ?_ | refine CW.condF rfl ?_ | (refine hK _ _ ?_; clear hK K))
  refine CW.condP rfl (fun h2 => ?_) (fun h2 => ?_)
  · rw [bstr_size, hlj] at h2
    repeat (first | refine WL.nil ?_ | refine WL.auto (h := ?_) | refine WL.gskip rfl rfl rfl rfl ?_ | refine WL.gauto (h := ?_) | (refine CW.seq ?_; intro K hK) | refine CW.block ?_ | refine CW.region ?_ | refine CW.skip ?_ | refine CW.exit ?_ | refine CW.ret ?_ | (refine thn_ret (K := K) ?_; clear hK K) | refine thn_ret ?_ | refine blk_ret ?_ | (refine thn_exit (K := K) ?_; clear hK K) | refine thn_exit ?_ | refine blk_here ?_ | refine blk_past rfl ?_ | refine thn_norm ?_ | refine blk_norm ?_ | refine CW.condT rfl ?_ | refine CW.condF rfl ?_ | (refine hK _ _ ?_; clear hK K))
    first | refine WL.step rfl ?_ | refine WL.gstep rfl rfl rfl rfl ?_
    refine OpW.addS (l := [48]) rfl rfl (by rw [hlj]; simp only [List.length_cons, List.length_nil]; omega) ?_
    repeat (first | refine WL.nil ?_ | refine WL.auto (h := ?_) | refine WL.gskip rfl rfl rfl rfl ?_ | refine WL.gauto (h := ?_) | (refine CW.seq ?_; intro K hK) | refine CW.block ?_ | refine CW.region ?_ | refine CW.skip ?_ | refine CW.exit ?_ | refine CW.ret ?_ | (refine thn_ret (K := K) ?_; clear hK K) | refine thn_ret ?_ | refine blk_ret ?_ | (refine thn_exit (K := K) ?_; clear hK K) | refine thn_exit ?_ | refine blk_here ?_ | refine blk_past rfl ?_ | refine thn_norm ?_ | refine blk_norm ?_ | refine CW.condT rfl ?_ | refine CW.condF rfl ?_ | (refine hK _ _ ?_; clear hK K))
    exact hJ2 (18 - (j + 1)) _ _ (by omega) ⟨rfl, j + 1, by omega, rfl, rep4 rfl rfl rfl (congrArg (fun l => Value.string (bstr l)) (rep_snoc j 48 _))⟩
  · rw [bstr_size, hlj] at h2
    have e1 : j = 18 - Lib.nDigits r := by omega
    repeat (first | refine WL.nil ?_ | refine WL.auto (h := ?_) | refine WL.gskip rfl rfl rfl rfl ?_ | refine WL.gauto (h := ?_) | (refine CW.seq ?_; intro K hK) | refine CW.block ?_ | refine CW.region ?_ | refine CW.skip ?_ | refine CW.exit ?_ | refine CW.ret ?_ | (refine thn_ret (K := K) ?_; clear hK K) | refine thn_ret ?_ | refine blk_ret ?_ | (refine thn_exit (K := K) ?_; clear hK K) | refine thn_exit ?_ | refine blk_here ?_ | refine blk_past rfl ?_ | refine thn_norm ?_ | refine blk_norm ?_ | refine CW.condT rfl ?_ | refine CW.condF rfl ?_ | (refine hK _ _ ?_; clear hK K))
    exact K_of' key (rep4 rfl rfl rfl (congrArg (fun l => Value.string (bstr l)) (by rw [hpd, e1])))
end B
end Go.Proofs.YtbcmmamipjbfpaaDoor
