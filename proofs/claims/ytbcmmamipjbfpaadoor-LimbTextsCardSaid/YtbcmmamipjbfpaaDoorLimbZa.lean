/- The document's Div: bit by bit. Conditions: below 2^256, below 2^64. -/
import Derived.Test.YtbcmmamipjbfpaaDoorLimbZ
import Derived.Test.YtbcmmamipjbfpaaDoorLimbL
namespace Go.Proofs.YtbcmmamipjbfpaaDoor
namespace B
set_option linter.unusedVariables false
set_option linter.unusedSimpArgs false
set_option maxRecDepth 4000

theorem lb_bit (N i : Nat) (hi : i < 256) : lb N (i / 64) / 2 ^ (i % 64) % 2 = N / 2 ^ i % 2 := by
  unfold lb
  have hd : (2 ^ (i % 64) * 2) ∣ m64 := by
    have e : m64 = 2 ^ (i % 64) * 2 * 2 ^ (63 - i % 64) := by
      rw [← Nat.pow_succ, ← Nat.pow_add, show i % 64 + 1 + (63 - i % 64) = 64 from by omega]
      rfl
    exact ⟨_, e⟩
  rw [← Nat.mod_mul_right_div_self, Nat.mod_mod_of_dvd _ hd, Nat.mod_mul_right_div_self, Nat.div_div_eq_div_mul]
  congr 2
  rw [show m64 = 2 ^ 64 from rfl, ← Nat.pow_mul, ← Nat.pow_add]
  congr 1
  omega
/-- The quotient's part of 64 bits, its bits below i not yet set. -/
def ql (D i j : Nat) : Nat := lb D j / 2 ^ (min 64 (i - 64 * j)) * 2 ^ (min 64 (i - 64 * j))
theorem ql_start (D j : Nat) (hj : j < 4) : ql D 256 j = 0 := by
  unfold ql
  rw [show min 64 (256 - 64 * j) = 64 from by omega, Nat.div_eq_of_lt (show lb D j < 2 ^ 64 from lb_lt D j), Nat.zero_mul]
theorem ql_last (D j : Nat) : ql D 0 j = lb D j := by
  unfold ql
  rw [Nat.zero_sub, Nat.min_eq_right (Nat.zero_le _), Nat.pow_zero, Nat.div_one, Nat.mul_one]
theorem ql_other (D i j : Nat) (h : j ≠ i / 64) : ql D i j = ql D (i + 1) j := by
  unfold ql
  rw [show min 64 (i + 1 - 64 * j) = min 64 (i - 64 * j) from by omega]
theorem ql_next (D i : Nat) (hi : i < 256) : ql D i (i / 64) = ql D (i + 1) (i / 64) + D / 2 ^ i % 2 * 2 ^ (i % 64) ∧ ql D (i + 1) (i / 64) = lb D (i / 64) / 2 ^ (i % 64 + 1) * 2 ^ (i % 64 + 1) ∧ lb D (i / 64) / 2 ^ (i % 64 + 1) * 2 ^ (i % 64 + 1) < m64 := by
  have hb := lb_bit D i hi
  unfold ql
  rw [show min 64 (i - 64 * (i / 64)) = i % 64 from by omega, show min 64 (i + 1 - 64 * (i / 64)) = i % 64 + 1 from by omega, ← hb]
  refine ⟨?_, rfl, Nat.lt_of_le_of_lt (Nat.div_mul_le_self _ _) (lb_lt D (i / 64))⟩
  have e := bit_step (lb D (i / 64)) (i % 64)
  generalize lb D (i / 64) / 2 ^ (i % 64) % 2 = b at *
  rw [e, Nat.add_mul, Nat.pow_succ, Nat.mul_comm 2, Nat.mul_assoc, Nat.mul_comm 2]
/-- One bit of the division. -/
theorem div_bit (a k i : Nat) (hk : 0 < k) : a / k / 2 ^ i % 2 = (if k ≤ 2 * (a / 2 ^ (i + 1) % k) + a / 2 ^ i % 2 then 1 else 0) ∧
    a / 2 ^ i % k = 2 * (a / 2 ^ (i + 1) % k) + a / 2 ^ i % 2 - (if k ≤ 2 * (a / 2 ^ (i + 1) % k) + a / 2 ^ i % 2 then k else 0) := by
  have e1 : a / k / 2 ^ i = a / 2 ^ i / k := by rw [Nat.div_div_eq_div_mul, Nat.mul_comm, ← Nat.div_div_eq_div_mul]
  have e2 := bit_step a i
  have hb : a / 2 ^ i % 2 < 2 := Nat.mod_lt _ (by decide)
  rw [e1]
  generalize a / 2 ^ i % 2 = b at *
  rw [e2]
  generalize a / 2 ^ (i + 1) = A at *
  have hr := Nat.mod_lt A hk
  have hd := Nat.div_add_mod A k
  generalize A / k = q at *
  generalize A % k = r at *
  subst hd
  have e3 : 2 * (k * q + r) + b = (2 * r + b) + k * (2 * q) := by rw [Nat.mul_add, ← Nat.mul_assoc, Nat.mul_comm 2 k, Nat.mul_assoc]; omega
  rw [e3, Nat.add_mul_div_left _ _ hk, Nat.add_mul_mod_self_left (2 * r + b) k (2 * q)]
  by_cases h : k ≤ 2 * r + b
  · rw [if_pos h, if_pos h]
    have h1 : (2 * r + b) / k = 1 := by
      apply Nat.div_eq_of_lt_le
      · omega
      · rw [show (1 + 1) * k = 2 * k from rfl]; omega
    have h2 : (2 * r + b) % k = 2 * r + b - k := by
      have := Nat.div_add_mod (2 * r + b) k
      rw [h1] at this
      omega
    rw [h1, h2]
    exact ⟨by omega, rfl⟩
  · rw [if_neg h, if_neg h, Nat.div_eq_of_lt (show 2 * r + b < k by omega), Nat.mod_eq_of_lt (show 2 * r + b < k by omega)]
    exact ⟨by omega, by omega⟩
attribute [local irreducible] OpW WL CW Ret Sl Blk thn blk outOf
set_option linter.unusedVariables false
set_option linter.unusedSimpArgs false
set_option maxHeartbeats 1000000 in
theorem Div27 (a k : Nat) (ha : a < m256) (hk : k < m64) (w : World) : Ret Tryd.prog 27 #[uv a, .int .u64 (k : Nat)] w fun v w' => v = .tuple #[uv (divN a k).1, .int .u64 ((divN a k).2 : Nat)] ∧ Grow w w' := by
  obtain ⟨D, hD⟩ : ∃ D, D = a / k := ⟨_, rfl⟩
  refine Ret.enter (fn := Tryd.f27) (N := 53) Tryd.func27 rfl Tryd.ntmps27 rfl ?_
  repeat (first | refine WL.nil ?_ | refine WL.auto (h := ?_) | refine WL.gskip rfl rfl rfl rfl ?_ | refine WL.gauto (h := ?_) | (refine CW.seq ?_; intro K hK) | refine CW.block ?_ | refine CW.region ?_ | refine CW.skip ?_ | refine CW.exit ?_ | refine CW.ret ?_ | (refine thn_ret (K := K) ?_; clear hK K) | refine thn_ret ?_ | refine blk_ret ?_ | (refine thn_exit (K := K) ?_; clear hK K) | refine thn_exit ?_ | refine blk_here ?_ | refine blk_past rfl ?_ | refine thn_norm ?_ | refine blk_norm ?_ | refine CW.condT rfl ?_ | refine CW.condF rfl ?_ | (refine hK _ _ ?_; clear hK K))
  first | refine WL.step rfl ?_ | refine WL.gstep rfl rfl rfl rfl ?_
  refine OpW.box (v := uv a) rfl ?_
  intro b2 w1 n1
  have va : Blk w1 b2 (uc (lb a)) 24 := n1.blk
  have G := n1.grow
  clear n1
  repeat (first | refine WL.nil ?_ | refine WL.auto (h := ?_) | refine WL.gskip rfl rfl rfl rfl ?_ | refine WL.gauto (h := ?_) | (refine CW.seq ?_; intro K hK) | refine CW.block ?_ | refine CW.region ?_ | refine CW.skip ?_ | refine CW.exit ?_ | refine CW.ret ?_ | (refine thn_ret (K := K) ?_; clear hK K) | refine thn_ret ?_ | refine blk_ret ?_ | (refine thn_exit (K := K) ?_; clear hK K) | refine thn_exit ?_ | refine blk_here ?_ | refine blk_past rfl ?_ | refine thn_norm ?_ | refine blk_norm ?_ | refine CW.condT rfl ?_ | refine CW.condF rfl ?_ | (refine hK _ _ ?_; clear hK K))
  first | refine WL.step rfl ?_ | refine WL.gstep rfl rfl rfl rfl ?_
  refine OpW.alloc (fun b4 w2 n2 => ?_)
  have v4 : Blk w2 b4 (uc fun _ => 0) 24 := n2.blk
  have f4 : w.heap.size ≤ b4 := Nat.le_trans G.size n2.fresh
  replace va := va.grow n2.grow
  replace G := G.then n2.grow
  clear n2
  repeat (first | refine WL.nil ?_ | refine WL.auto (h := ?_) | refine WL.gskip rfl rfl rfl rfl ?_ | refine WL.gauto (h := ?_) | (refine CW.seq ?_; intro K hK) | refine CW.block ?_ | refine CW.region ?_ | refine CW.skip ?_ | refine CW.exit ?_ | refine CW.ret ?_ | (refine thn_ret (K := K) ?_; clear hK K) | refine thn_ret ?_ | refine blk_ret ?_ | (refine thn_exit (K := K) ?_; clear hK K) | refine thn_exit ?_ | refine blk_here ?_ | refine blk_past rfl ?_ | refine thn_norm ?_ | refine blk_norm ?_ | refine CW.condT rfl ?_ | refine CW.condF rfl ?_ | (refine hK _ _ ?_; clear hK K))
  refine CW.condP rfl (fun h0 => ?_) (fun h0 => ?_)
  · have e1 : divN a k = (0, 0) := by unfold divN; rw [if_pos (by omega)]
    repeat (first | refine WL.nil ?_ | refine WL.auto (h := ?_) | refine WL.gskip rfl rfl rfl rfl ?_ | refine WL.gauto (h := ?_) | (refine CW.seq ?_; intro K hK) | refine CW.block ?_ | refine CW.region ?_ | refine CW.skip ?_ | refine CW.exit ?_ | refine CW.ret ?_ | (refine thn_ret (K := K) ?_; clear hK K) | refine thn_ret ?_ | refine blk_ret ?_ | (refine thn_exit (K := K) ?_; clear hK K) | refine thn_exit ?_ | refine blk_here ?_ | refine blk_past rfl ?_ | refine thn_norm ?_ | refine blk_norm ?_ | refine CW.condT rfl ?_ | refine CW.condF rfl ?_ | (refine hK _ _ ?_; clear hK K))
    first | refine WL.step rfl ?_ | refine WL.gstep rfl rfl rfl rfl ?_
    refine OpW.buildA (cells := uc fun _ => 0) rfl rfl ?_
    repeat (first | refine WL.nil ?_ | refine WL.auto (h := ?_) | refine WL.gskip rfl rfl rfl rfl ?_ | refine WL.gauto (h := ?_) | (refine CW.seq ?_; intro K hK) | refine CW.block ?_ | refine CW.region ?_ | refine CW.skip ?_ | refine CW.exit ?_ | refine CW.ret ?_ | (refine thn_ret (K := K) ?_; clear hK K) | refine thn_ret ?_ | refine blk_ret ?_ | (refine thn_exit (K := K) ?_; clear hK K) | refine thn_exit ?_ | refine blk_here ?_ | refine blk_past rfl ?_ | refine thn_norm ?_ | refine blk_norm ?_ | refine CW.condT rfl ?_ | refine CW.condF rfl ?_ | (refine hK _ _ ?_; clear hK K))
    refine WL.step0 ?_
    refine OpW.storeAll (d := uc fun _ => 0) rfl rfl rfl v4 rfl rfl (fun w5 p5 hb => ?_)
    repeat (first | refine WL.nil ?_ | refine WL.auto (h := ?_) | refine WL.gskip rfl rfl rfl rfl ?_ | refine WL.gauto (h := ?_) | (refine CW.seq ?_; intro K hK) | refine CW.block ?_ | refine CW.region ?_ | refine CW.skip ?_ | refine CW.exit ?_ | refine CW.ret ?_ | (refine thn_ret (K := K) ?_; clear hK K) | refine thn_ret ?_ | refine blk_ret ?_ | (refine thn_exit (K := K) ?_; clear hK K) | refine thn_exit ?_ | refine blk_here ?_ | refine blk_past rfl ?_ | refine thn_norm ?_ | refine blk_norm ?_ | refine CW.condT rfl ?_ | refine CW.condF rfl ?_ | (refine hK _ _ ?_; clear hK K))
    refine outC2 (v := .int .u64 0) Tryd.results27 rfl hb rfl ⟨?_, G.chgNew p5.chg (fun i hi e => by omega)⟩ (Or.inr rfl)
    rw [uv_zero, e1]
    rfl
  have hk0 : 0 < k := by omega
  have e1 : divN a k = (D, a % k) := by unfold divN; rw [if_neg (by omega), hD]
  repeat (first | refine WL.nil ?_ | refine WL.auto (h := ?_) | refine WL.gskip rfl rfl rfl rfl ?_ | refine WL.gauto (h := ?_) | (refine CW.seq ?_; intro K hK) | refine CW.block ?_ | refine CW.region ?_ | refine CW.skip ?_ | refine CW.exit ?_ | refine CW.ret ?_ | (refine thn_ret (K := K) ?_; clear hK K) | refine thn_ret ?_ | refine blk_ret ?_ | (refine thn_exit (K := K) ?_; clear hK K) | refine thn_exit ?_ | refine blk_here ?_ | refine blk_past rfl ?_ | refine thn_norm ?_ | refine blk_norm ?_ | refine CW.condT rfl ?_ | refine CW.condF rfl ?_ | (refine hK _ _ ?_; clear hK K))
  first | refine WL.step rfl ?_ | refine WL.gstep rfl rfl rfl rfl ?_
  refine OpW.alloc (fun b6 w3 n3 => ?_)
  have vq : Blk w3 b6 (uc (ql D 256)) 24 := by
    rw [uc_congr (g := fun _ => 0) fun j hj => ql_start D j hj]; exact n3.blk
  have f6 : w.heap.size ≤ b6 := Nat.le_trans G.size n3.fresh
  have n26 : ¬ b2 = b6 := fun e => by have := va.lt; have := n3.fresh; omega
  have n46 : ¬ b4 = b6 := fun e => by have := v4.lt; have := n3.fresh; omega
  replace va := va.grow n3.grow
  replace v4 := v4.grow n3.grow
  replace G := G.then n3.grow
  clear n3
  repeat (first | refine WL.nil ?_ | refine WL.auto (h := ?_) | refine WL.gskip rfl rfl rfl rfl ?_ | refine WL.gauto (h := ?_) | (refine CW.seq ?_; intro K hK) | refine CW.block ?_ | refine CW.region ?_ | refine CW.skip ?_ | refine CW.exit ?_ | refine CW.ret ?_ | (refine thn_ret (K := K) ?_; clear hK K) | refine thn_ret ?_ | refine blk_ret ?_ | (refine thn_exit (K := K) ?_; clear hK K) | refine thn_exit ?_ | refine blk_here ?_ | refine blk_past rfl ?_ | refine thn_norm ?_ | refine blk_norm ?_ | refine CW.condT rfl ?_ | refine CW.condF rfl ?_ | (refine hK _ _ ?_; clear hK K))
  refine CW.loop (fun n' e w3 => ∃ i, i ≤ 256 ∧ n' = i ∧ Blk w3 b2 (uc (lb a)) 24 ∧ Blk w3 b4 (uc fun _ => 0) 24 ∧ Blk w3 b6 (uc (ql D i)) 24 ∧ Grow w w3 ∧
    ∃ e0, e = upd (upd (upd (upd (upd (upd e0 1 (.int .u64 (k : Nat))) 2 (.pointer (some ⟨b2, 0, none⟩))) 4 (.pointer (some ⟨b4, 0, none⟩))) 6 (.pointer (some ⟨b6, 0, none⟩))) 7 (.int .u64 (a / 2 ^ i % k : Nat))) 8 (.int .i64 ((i : Int) - 1))) 256 ?_ ?_
  · refine ⟨256, by omega, rfl, va, v4, vq, G, rep6 rfl rfl rfl rfl (congrArg (fun n : Nat => Value.int .u64 n) ?_) rfl⟩
    rw [Nat.div_eq_of_lt (show a < 2 ^ 256 from ha), Nat.zero_mod]
  clear va v4 vq G
  rintro i' e w3 ⟨_, hi, rfl, va, v4, vq, G, e0, rfl⟩ KJ hJ
  repeat (first | refine WL.nil ?_ | refine WL.auto (h := ?_) | refine WL.gskip rfl rfl rfl rfl ?_ | refine WL.gauto (h := ?_) | (refine CW.seq ?_; intro K hK) | refine CW.block ?_ | refine CW.region ?_ | refine CW.skip ?_ | refine CW.exit ?_ | refine CW.ret ?_ | (refine thn_ret (K := K) ?_; clear hK K) | refine thn_ret ?_ | refine blk_ret ?_ | (refine thn_exit (K := K) ?_; clear hK K) | refine thn_exit ?_ | refine blk_here ?_ | refine blk_past rfl ?_ | refine thn_norm ?_ | refine blk_norm ?_ | refine CW.condT rfl ?_ | refine CW.condF rfl ?_ | (refine hK _ _ ?_; clear hK K))
  refine CW.condP rfl (fun h1 => ?_) (fun h1 => ?_)
  · obtain ⟨i, rfl⟩ : ∃ i, i' = i + 1 := ⟨i' - 1, by omega⟩
    have hii : ((i + 1 : Nat) : Int) - 1 = (i : Int) := by omega
    rw [hii]
    have hil : i < 256 := by omega
    obtain ⟨d1, d2⟩ := div_bit a k i hk0
    rw [← hD] at d1
    obtain ⟨q1, q2, q3⟩ := ql_next D i hil
    rw [d1] at q1
    have hbit := lb_bit a i hil
    have hb2 : a / 2 ^ i % 2 < 2 := Nat.mod_lt _ (by decide)
    have hR := Nat.mod_lt (a / 2 ^ (i + 1)) hk0
    have hal : lb a (i / 64) / 2 ^ (i % 64) < m64 := Nat.lt_of_le_of_lt (Nat.div_le_self _ _) (lb_lt a _)
    generalize a / 2 ^ (i + 1) % k = R at *
    generalize a / 2 ^ i % 2 = b at *
    obtain ⟨R', hR'⟩ : ∃ R', R' = a / 2 ^ i % k := ⟨_, rfl⟩
    rw [← hR'] at d2
    have hsh : R * 2 ^ 1 % m64 = R % 9223372036854775808 * 2 ^ 1 := by unfold m64; omega
    have hsl : R % 9223372036854775808 * 2 ^ 1 < m64 := by unfold m64; omega
    have hd63 : R / 2 ^ 63 = R / 9223372036854775808 := rfl
    repeat (first | refine WL.nil ?_ | refine WL.auto (h := ?_) | refine WL.gskip rfl rfl rfl rfl ?_ | refine WL.gauto (h := ?_) | (refine CW.seq ?_; intro K hK) | refine CW.block ?_ | refine CW.region ?_ | refine CW.skip ?_ | refine CW.exit ?_ | refine CW.ret ?_ | (refine thn_ret (K := K) ?_; clear hK K) | refine thn_ret ?_ | refine blk_ret ?_ | (refine thn_exit (K := K) ?_; clear hK K) | refine thn_exit ?_ | refine blk_here ?_ | refine blk_past rfl ?_ | refine thn_norm ?_ | refine blk_norm ?_ | refine CW.condT rfl ?_ | refine CW.condF rfl ?_ | (refine hK _ _ ?_; clear hK K))
    first | refine WL.step rfl ?_ | refine WL.gstep rfl rfl rfl rfl ?_
    refine OpW.shrN 63 rfl rfl rfl (by decide) ?_
    rw [hd63]
    repeat (first | refine WL.nil ?_ | refine WL.auto (h := ?_) | refine WL.gskip rfl rfl rfl rfl ?_ | refine WL.gauto (h := ?_) | (refine CW.seq ?_; intro K hK) | refine CW.block ?_ | refine CW.region ?_ | refine CW.skip ?_ | refine CW.exit ?_ | refine CW.ret ?_ | (refine thn_ret (K := K) ?_; clear hK K) | refine thn_ret ?_ | refine blk_ret ?_ | (refine thn_exit (K := K) ?_; clear hK K) | refine thn_exit ?_ | refine blk_here ?_ | refine blk_past rfl ?_ | refine thn_norm ?_ | refine blk_norm ?_ | refine CW.condT rfl ?_ | refine CW.condF rfl ?_ | (refine hK _ _ ?_; clear hK K))
    first | refine WL.step rfl ?_ | refine WL.gstep rfl rfl rfl rfl ?_
    refine OpW.shlU 1 rfl rfl rfl (by decide) ?_
    rw [hsh]
    repeat (first | refine WL.nil ?_ | refine WL.auto (h := ?_) | refine WL.gskip rfl rfl rfl rfl ?_ | refine WL.gauto (h := ?_) | (refine CW.seq ?_; intro K hK) | refine CW.block ?_ | refine CW.region ?_ | refine CW.skip ?_ | refine CW.exit ?_ | refine CW.ret ?_ | (refine thn_ret (K := K) ?_; clear hK K) | refine thn_ret ?_ | refine blk_ret ?_ | (refine thn_exit (K := K) ?_; clear hK K) | refine thn_exit ?_ | refine blk_here ?_ | refine blk_past rfl ?_ | refine thn_norm ?_ | refine blk_norm ?_ | refine CW.condT rfl ?_ | refine CW.condF rfl ?_ | (refine hK _ _ ?_; clear hK K))
    first | refine WL.step rfl ?_ | refine WL.gstep rfl rfl rfl rfl ?_
    refine OpW.quoN (k := .i64) (k' := .i64) (m := 64) rfl rfl rfl (by decide) (by omega) ?_
    repeat (first | refine WL.nil ?_ | refine WL.auto (h := ?_) | refine WL.gskip rfl rfl rfl rfl ?_ | refine WL.gauto (h := ?_) | (refine CW.seq ?_; intro K hK) | refine CW.block ?_ | refine CW.region ?_ | refine CW.skip ?_ | refine CW.exit ?_ | refine CW.ret ?_ | (refine thn_ret (K := K) ?_; clear hK K) | refine thn_ret ?_ | refine blk_ret ?_ | (refine thn_exit (K := K) ?_; clear hK K) | refine thn_exit ?_ | refine blk_here ?_ | refine blk_past rfl ?_ | refine thn_norm ?_ | refine blk_norm ?_ | refine CW.condT rfl ?_ | refine CW.condF rfl ?_ | (refine hK _ _ ?_; clear hK K))
    first | refine WL.step rfl ?_ | refine WL.gstep rfl rfl rfl rfl ?_
    refine OpW.idxA (i / 64) rfl rfl rfl (by omega) ?_
    repeat (first | refine WL.nil ?_ | refine WL.auto (h := ?_) | refine WL.gskip rfl rfl rfl rfl ?_ | refine WL.gauto (h := ?_) | (refine CW.seq ?_; intro K hK) | refine CW.block ?_ | refine CW.region ?_ | refine CW.skip ?_ | refine CW.exit ?_ | refine CW.ret ?_ | (refine thn_ret (K := K) ?_; clear hK K) | refine thn_ret ?_ | refine blk_ret ?_ | (refine thn_exit (K := K) ?_; clear hK K) | refine thn_exit ?_ | refine blk_here ?_ | refine blk_past rfl ?_ | refine thn_norm ?_ | refine blk_norm ?_ | refine CW.condT rfl ?_ | refine CW.condF rfl ?_ | (refine hK _ _ ?_; clear hK K))
    first | refine WL.step rfl ?_ | refine WL.gstep rfl rfl rfl rfl ?_
    refine OpW.load (v := .int .u64 (lb a (i / 64) : Nat)) rfl va (by rw [Nat.zero_add]; exact uc_get _ _ (by omega)) ?_
    repeat (first | refine WL.nil ?_ | refine WL.auto (h := ?_) | refine WL.gskip rfl rfl rfl rfl ?_ | refine WL.gauto (h := ?_) | (refine CW.seq ?_; intro K hK) | refine CW.block ?_ | refine CW.region ?_ | refine CW.skip ?_ | refine CW.exit ?_ | refine CW.ret ?_ | (refine thn_ret (K := K) ?_; clear hK K) | refine thn_ret ?_ | refine blk_ret ?_ | (refine thn_exit (K := K) ?_; clear hK K) | refine thn_exit ?_ | refine blk_here ?_ | refine blk_past rfl ?_ | refine thn_norm ?_ | refine blk_norm ?_ | refine CW.condT rfl ?_ | refine CW.condF rfl ?_ | (refine hK _ _ ?_; clear hK K))
    first | refine WL.step rfl ?_ | refine WL.gstep rfl rfl rfl rfl ?_
    refine OpW.remN (m := 64) rfl rfl rfl (by decide) ?_
    repeat (first | refine WL.nil ?_ | refine WL.auto (h := ?_) | refine WL.gskip rfl rfl rfl rfl ?_ | refine WL.gauto (h := ?_) | (refine CW.seq ?_; intro K hK) | refine CW.block ?_ | refine CW.region ?_ | refine CW.skip ?_ | refine CW.exit ?_ | refine CW.ret ?_ | (refine thn_ret (K := K) ?_; clear hK K) | refine thn_ret ?_ | refine blk_ret ?_ | (refine thn_exit (K := K) ?_; clear hK K) | refine thn_exit ?_ | refine blk_here ?_ | refine blk_past rfl ?_ | refine thn_norm ?_ | refine blk_norm ?_ | refine CW.condT rfl ?_ | refine CW.condF rfl ?_ | (refine hK _ _ ?_; clear hK K))
    first | refine WL.step rfl ?_ | refine WL.gstep rfl rfl rfl rfl ?_
    refine OpW.shrN (i % 64) rfl rfl rfl (by show i % 64 ≤ 64; omega) ?_
    repeat (first | refine WL.nil ?_ | refine WL.auto (h := ?_) | refine WL.gskip rfl rfl rfl rfl ?_ | refine WL.gauto (h := ?_) | (refine CW.seq ?_; intro K hK) | refine CW.block ?_ | refine CW.region ?_ | refine CW.skip ?_ | refine CW.exit ?_ | refine CW.ret ?_ | (refine thn_ret (K := K) ?_; clear hK K) | refine thn_ret ?_ | refine blk_ret ?_ | (refine thn_exit (K := K) ?_; clear hK K) | refine thn_exit ?_ | refine blk_here ?_ | refine blk_past rfl ?_ | refine thn_norm ?_ | refine blk_norm ?_ | refine CW.condT rfl ?_ | refine CW.condF rfl ?_ | (refine hK _ _ ?_; clear hK K))
    first | refine WL.step rfl ?_ | refine WL.gstep rfl rfl rfl rfl ?_
    refine OpW.and1 rfl rfl hal ?_
    rw [hbit]
    repeat (first | refine WL.nil ?_ | refine WL.auto (h := ?_) | refine WL.gskip rfl rfl rfl rfl ?_ | refine WL.gauto (h := ?_) | (refine CW.seq ?_; intro K hK) | refine CW.block ?_ | refine CW.region ?_ | refine CW.skip ?_ | refine CW.exit ?_ | refine CW.ret ?_ | (refine thn_ret (K := K) ?_; clear hK K) | refine thn_ret ?_ | refine blk_ret ?_ | (refine thn_exit (K := K) ?_; clear hK K) | refine thn_exit ?_ | refine blk_here ?_ | refine blk_past rfl ?_ | refine thn_norm ?_ | refine blk_norm ?_ | refine CW.condT rfl ?_ | refine CW.condF rfl ?_ | (refine hK _ _ ?_; clear hK K))
    first | refine WL.step rfl ?_ | refine WL.gstep rfl rfl rfl rfl ?_
    refine OpW.orU 1 rfl rfl (by omega) hsl (by decide) ?_
    obtain ⟨W, hW⟩ : ∃ W, W = R % 9223372036854775808 * 2 ^ 1 + b := ⟨_, rfl⟩
    rw [← hW]
    repeat (first | refine WL.nil ?_ | refine WL.auto (h := ?_) | refine WL.gskip rfl rfl rfl rfl ?_ | refine WL.gauto (h := ?_) | (refine CW.seq ?_; intro K hK) | refine CW.block ?_ | refine CW.region ?_ | refine CW.skip ?_ | refine CW.exit ?_ | refine CW.ret ?_ | (refine thn_ret (K := K) ?_; clear hK K) | refine thn_ret ?_ | refine blk_ret ?_ | (refine thn_exit (K := K) ?_; clear hK K) | refine thn_exit ?_ | refine blk_here ?_ | refine blk_past rfl ?_ | refine thn_norm ?_ | refine blk_norm ?_ | refine CW.condT rfl ?_ | refine CW.condF rfl ?_ | (refine hK _ _ ?_; clear hK K))
    have hkm : k < 18446744073709551616 := hk
    have key : ∀ e0, K (upd (upd (upd (upd (upd (upd (upd e0 1 (.int .u64 (k : Nat))) 2 (.pointer (some ⟨b2, 0, none⟩))) 4 (.pointer (some ⟨b4, 0, none⟩))) 6 (.pointer (some ⟨b6, 0, none⟩))) 7 (.int .u64 (W : Nat))) 8 (.int .i64 i)) 37 (.bool (decide (k ≤ 2 * R + b)))) w3 := by
      intro e0
      refine hK _ _ ?_
      clear hK
      refine CW.condP rfl (fun h2 => ?_) (fun h2 => ?_)
      · rw [if_pos h2] at d2
        rw [if_pos h2, Nat.one_mul] at q1
        have hsub : (W + m64 - k) % m64 = R' := by unfold m64; omega
        have hpow : 1 * 2 ^ (i % 64) % m64 = 2 ^ (i % 64) := by
          rw [Nat.one_mul]
          exact Nat.mod_eq_of_lt (show 2 ^ (i % 64) < 2 ^ 64 from Nat.pow_lt_pow_right (by decide) (by omega))
        repeat (first | refine WL.nil ?_ | refine WL.auto (h := ?_) | refine WL.gskip rfl rfl rfl rfl ?_ | refine WL.gauto (h := ?_) | (refine CW.seq ?_; intro K hK) | refine CW.block ?_ | refine CW.region ?_ | refine CW.skip ?_ | refine CW.exit ?_ | refine CW.ret ?_ | (refine thn_ret (K := K) ?_; clear hK K) | refine thn_ret ?_ | refine blk_ret ?_ | (refine thn_exit (K := K) ?_; clear hK K) | refine thn_exit ?_ | refine blk_here ?_ | refine blk_past rfl ?_ | refine thn_norm ?_ | refine blk_norm ?_ | refine CW.condT rfl ?_ | refine CW.condF rfl ?_ | (refine hK _ _ ?_; clear hK K))
        first | refine WL.step rfl ?_ | refine WL.gstep rfl rfl rfl rfl ?_
        refine OpW.subW rfl rfl (by unfold m64; omega) ?_
        rw [hsub]
        repeat (first | refine WL.nil ?_ | refine WL.auto (h := ?_) | refine WL.gskip rfl rfl rfl rfl ?_ | refine WL.gauto (h := ?_) | (refine CW.seq ?_; intro K hK) | refine CW.block ?_ | refine CW.region ?_ | refine CW.skip ?_ | refine CW.exit ?_ | refine CW.ret ?_ | (refine thn_ret (K := K) ?_; clear hK K) | refine thn_ret ?_ | refine blk_ret ?_ | (refine thn_exit (K := K) ?_; clear hK K) | refine thn_exit ?_ | refine blk_here ?_ | refine blk_past rfl ?_ | refine thn_norm ?_ | refine blk_norm ?_ | refine CW.condT rfl ?_ | refine CW.condF rfl ?_ | (refine hK _ _ ?_; clear hK K))
        first | refine WL.step rfl ?_ | refine WL.gstep rfl rfl rfl rfl ?_
        refine OpW.quoN (k := .i64) (k' := .i64) (m := 64) rfl rfl rfl (by decide) (by omega) ?_
        repeat (first | refine WL.nil ?_ | refine WL.auto (h := ?_) | refine WL.gskip rfl rfl rfl rfl ?_ | refine WL.gauto (h := ?_) | (refine CW.seq ?_; intro K hK) | refine CW.block ?_ | refine CW.region ?_ | refine CW.skip ?_ | refine CW.exit ?_ | refine CW.ret ?_ | (refine thn_ret (K := K) ?_; clear hK K) | refine thn_ret ?_ | refine blk_ret ?_ | (refine thn_exit (K := K) ?_; clear hK K) | refine thn_exit ?_ | refine blk_here ?_ | refine blk_past rfl ?_ | refine thn_norm ?_ | refine blk_norm ?_ | refine CW.condT rfl ?_ | refine CW.condF rfl ?_ | (refine hK _ _ ?_; clear hK K))
        first | refine WL.step rfl ?_ | refine WL.gstep rfl rfl rfl rfl ?_
        refine OpW.idxA (i / 64) rfl rfl rfl (by omega) ?_
        repeat (first | refine WL.nil ?_ | refine WL.auto (h := ?_) | refine WL.gskip rfl rfl rfl rfl ?_ | refine WL.gauto (h := ?_) | (refine CW.seq ?_; intro K hK) | refine CW.block ?_ | refine CW.region ?_ | refine CW.skip ?_ | refine CW.exit ?_ | refine CW.ret ?_ | (refine thn_ret (K := K) ?_; clear hK K) | refine thn_ret ?_ | refine blk_ret ?_ | (refine thn_exit (K := K) ?_; clear hK K) | refine thn_exit ?_ | refine blk_here ?_ | refine blk_past rfl ?_ | refine thn_norm ?_ | refine blk_norm ?_ | refine CW.condT rfl ?_ | refine CW.condF rfl ?_ | (refine hK _ _ ?_; clear hK K))
        first | refine WL.step rfl ?_ | refine WL.gstep rfl rfl rfl rfl ?_
        refine OpW.load (v := .int .u64 (lb D (i / 64) / 2 ^ (i % 64 + 1) * 2 ^ (i % 64 + 1) : Nat)) rfl vq (by rw [Nat.zero_add, ← q2]; exact uc_get _ _ (by omega)) ?_
        repeat (first | refine WL.nil ?_ | refine WL.auto (h := ?_) | refine WL.gskip rfl rfl rfl rfl ?_ | refine WL.gauto (h := ?_) | (refine CW.seq ?_; intro K hK) | refine CW.block ?_ | refine CW.region ?_ | refine CW.skip ?_ | refine CW.exit ?_ | refine CW.ret ?_ | (refine thn_ret (K := K) ?_; clear hK K) | refine thn_ret ?_ | refine blk_ret ?_ | (refine thn_exit (K := K) ?_; clear hK K) | refine thn_exit ?_ | refine blk_here ?_ | refine blk_past rfl ?_ | refine thn_norm ?_ | refine blk_norm ?_ | refine CW.condT rfl ?_ | refine CW.condF rfl ?_ | (refine hK _ _ ?_; clear hK K))
        first | refine WL.step rfl ?_ | refine WL.gstep rfl rfl rfl rfl ?_
        refine OpW.remN (m := 64) rfl rfl rfl (by decide) ?_
        repeat (first | refine WL.nil ?_ | refine WL.auto (h := ?_) | refine WL.gskip rfl rfl rfl rfl ?_ | refine WL.gauto (h := ?_) | (refine CW.seq ?_; intro K hK) | refine CW.block ?_ | refine CW.region ?_ | refine CW.skip ?_ | refine CW.exit ?_ | refine CW.ret ?_ | (refine thn_ret (K := K) ?_; clear hK K) | refine thn_ret ?_ | refine blk_ret ?_ | (refine thn_exit (K := K) ?_; clear hK K) | refine thn_exit ?_ | refine blk_here ?_ | refine blk_past rfl ?_ | refine thn_norm ?_ | refine blk_norm ?_ | refine CW.condT rfl ?_ | refine CW.condF rfl ?_ | (refine hK _ _ ?_; clear hK K))
        first | refine WL.step rfl ?_ | refine WL.gstep rfl rfl rfl rfl ?_
        refine OpW.shlU (a := 1) (i % 64) rfl rfl rfl (by omega) ?_
        rw [hpow]
        repeat (first | refine WL.nil ?_ | refine WL.auto (h := ?_) | refine WL.gskip rfl rfl rfl rfl ?_ | refine WL.gauto (h := ?_) | (refine CW.seq ?_; intro K hK) | refine CW.block ?_ | refine CW.region ?_ | refine CW.skip ?_ | refine CW.exit ?_ | refine CW.ret ?_ | (refine thn_ret (K := K) ?_; clear hK K) | refine thn_ret ?_ | refine blk_ret ?_ | (refine thn_exit (K := K) ?_; clear hK K) | refine thn_exit ?_ | refine blk_here ?_ | refine blk_past rfl ?_ | refine thn_norm ?_ | refine blk_norm ?_ | refine CW.condT rfl ?_ | refine CW.condF rfl ?_ | (refine hK _ _ ?_; clear hK K))
        first | refine WL.step rfl ?_ | refine WL.gstep rfl rfl rfl rfl ?_
        refine OpW.orU (i % 64 + 1) (c := 2 ^ (i % 64)) rfl rfl (Nat.pow_lt_pow_right (by decide) (by omega)) q3 (by omega) ?_
        rw [← q2, ← q1]
        repeat (first | refine WL.nil ?_ | refine WL.auto (h := ?_) | refine WL.gskip rfl rfl rfl rfl ?_ | refine WL.gauto (h := ?_) | (refine CW.seq ?_; intro K hK) | refine CW.block ?_ | refine CW.region ?_ | refine CW.skip ?_ | refine CW.exit ?_ | refine CW.ret ?_ | (refine thn_ret (K := K) ?_; clear hK K) | refine thn_ret ?_ | refine blk_ret ?_ | (refine thn_exit (K := K) ?_; clear hK K) | refine thn_exit ?_ | refine blk_here ?_ | refine blk_past rfl ?_ | refine thn_norm ?_ | refine blk_norm ?_ | refine CW.condT rfl ?_ | refine CW.condF rfl ?_ | (refine hK _ _ ?_; clear hK K))
        first | refine WL.step rfl ?_ | refine WL.gstep rfl rfl rfl rfl ?_
        refine OpW.idxA (i / 64) rfl rfl rfl (by omega) ?_
        repeat (first | refine WL.nil ?_ | refine WL.auto (h := ?_) | refine WL.gskip rfl rfl rfl rfl ?_ | refine WL.gauto (h := ?_) | (refine CW.seq ?_; intro K hK) | refine CW.block ?_ | refine CW.region ?_ | refine CW.skip ?_ | refine CW.exit ?_ | refine CW.ret ?_ | (refine thn_ret (K := K) ?_; clear hK K) | refine thn_ret ?_ | refine blk_ret ?_ | (refine thn_exit (K := K) ?_; clear hK K) | refine thn_exit ?_ | refine blk_here ?_ | refine blk_past rfl ?_ | refine thn_norm ?_ | refine blk_norm ?_ | refine CW.condT rfl ?_ | refine CW.condF rfl ?_ | (refine hK _ _ ?_; clear hK K))
        refine WL.step0 ?_
        refine OpW.store (v := .int .u64 (ql D i (i / 64) : Nat)) rfl rfl rfl vq (Nat.ble_eq_true_of_le (by rw [uc_size]; omega)) (c' := uc (ql D i)) (by
          rw [Nat.zero_add, uc_set _ _ _ (by omega)]
          refine uc_congr fun j _ => ?_
          by_cases h3 : j = i / 64
          · rw [if_pos h3, h3]
          · rw [if_neg h3, ql_other D i j h3]) ?_
        intro w5 p5 vq'
        repeat (first | refine WL.nil ?_ | refine WL.auto (h := ?_) | refine WL.gskip rfl rfl rfl rfl ?_ | refine WL.gauto (h := ?_) | (refine CW.seq ?_; intro K hK) | refine CW.block ?_ | refine CW.region ?_ | refine CW.skip ?_ | refine CW.exit ?_ | refine CW.ret ?_ | (refine thn_ret (K := K) ?_; clear hK K) | refine thn_ret ?_ | refine blk_ret ?_ | (refine thn_exit (K := K) ?_; clear hK K) | refine thn_exit ?_ | refine blk_here ?_ | refine blk_past rfl ?_ | refine thn_norm ?_ | refine blk_norm ?_ | refine CW.condT rfl ?_ | refine CW.condF rfl ?_ | (refine hK _ _ ?_; clear hK K))
        exact hJ i _ _ (by omega) ⟨i, by omega, rfl, va.keep p5.chg n26, v4.keep p5.chg n46, vq', G.chgNew p5.chg (fun i hi e => by omega), rep6 rfl rfl rfl rfl (congrArg (fun n : Nat => Value.int .u64 n) hR') rfl⟩
      · rw [if_neg h2] at d2
        rw [if_neg h2, Nat.zero_mul, Nat.add_zero] at q1
        have hWR : W = R' := by omega
        have hqq : uc (ql D (i + 1)) = uc (ql D i) := uc_congr fun j _ => by
          by_cases h3 : j = i / 64
          · rw [h3, q1]
          · rw [ql_other D i j h3]
        rw [hqq] at vq
        rw [hWR]
        repeat (first | refine WL.nil ?_ | refine WL.auto (h := ?_) | refine WL.gskip rfl rfl rfl rfl ?_ | refine WL.gauto (h := ?_) | (refine CW.seq ?_; intro K hK) | refine CW.block ?_ | refine CW.region ?_ | refine CW.skip ?_ | refine CW.exit ?_ | refine CW.ret ?_ | (refine thn_ret (K := K) ?_; clear hK K) | refine thn_ret ?_ | refine blk_ret ?_ | (refine thn_exit (K := K) ?_; clear hK K) | refine thn_exit ?_ | refine blk_here ?_ | refine blk_past rfl ?_ | refine thn_norm ?_ | refine blk_norm ?_ | refine CW.condT rfl ?_ | refine CW.condF rfl ?_ | (refine hK _ _ ?_; clear hK K))
        exact hJ i _ _ (by omega) ⟨i, by omega, rfl, va, v4, vq, G, rep6 rfl rfl rfl rfl (congrArg (fun n : Nat => Value.int .u64 n) hR') rfl⟩
    clear hK
    by_cases h2 : R / 9223372036854775808 = 1
    · rw [decide_eq_true (p := ((R / 9223372036854775808 : Nat) : Int) = 1) (by omega)]
      repeat (first | refine WL.nil ?_ | refine WL.auto (h := ?_) | refine WL.gskip rfl rfl rfl rfl ?_ | refine WL.gauto (h := ?_) | (refine CW.seq ?_; intro K hK) | refine CW.block ?_ | refine CW.region ?_ | refine CW.skip ?_ | refine CW.exit ?_ | refine CW.ret ?_ | (refine thn_ret (K := K) ?_; clear hK K) | refine thn_ret ?_ | refine blk_ret ?_ | (refine thn_exit (K := K) ?_; clear hK K) | refine thn_exit ?_ | refine blk_here ?_ | refine blk_past rfl ?_ | refine thn_norm ?_ | refine blk_norm ?_ | refine CW.condT rfl ?_ | refine CW.condF rfl ?_ | (refine hK _ _ ?_; clear hK K))
      exact K_of' key (rep7 rfl rfl rfl rfl rfl rfl (congrArg Value.bool (decide_eq_true (show k ≤ 2 * R + b by omega)).symm))
    · rw [decide_eq_false (p := ((R / 9223372036854775808 : Nat) : Int) = 1) (by omega)]
      repeat (first | refine WL.nil ?_ | refine WL.auto (h := ?_) | refine WL.gskip rfl rfl rfl rfl ?_ | refine WL.gauto (h := ?_) | (refine CW.seq ?_; intro K hK) | refine CW.block ?_ | refine CW.region ?_ | refine CW.skip ?_ | refine CW.exit ?_ | refine CW.ret ?_ | (refine thn_ret (K := K) ?_; clear hK K) | refine thn_ret ?_ | refine blk_ret ?_ | (refine thn_exit (K := K) ?_; clear hK K) | refine thn_exit ?_ | refine blk_here ?_ | refine blk_past rfl ?_ | refine thn_norm ?_ | refine blk_norm ?_ | refine CW.condT rfl ?_ | refine CW.condF rfl ?_ | (refine hK _ _ ?_; clear hK K))
      exact K_of' key (rep7 rfl rfl rfl rfl rfl rfl (congrArg Value.bool (decide_eq_decide.2 (by omega))))
  · obtain rfl : i' = 0 := by omega
    clear hJ
    repeat (first | refine WL.nil ?_ | refine WL.auto (h := ?_) | refine WL.gskip rfl rfl rfl rfl ?_ | refine WL.gauto (h := ?_) | (refine CW.seq ?_; intro K hK) | refine CW.block ?_ | refine CW.region ?_ | refine CW.skip ?_ | refine CW.exit ?_ | refine CW.ret ?_ | (refine thn_ret (K := K) ?_; clear hK K) | refine thn_ret ?_ | refine blk_ret ?_ | (refine thn_exit (K := K) ?_; clear hK K) | refine thn_exit ?_ | refine blk_here ?_ | refine blk_past rfl ?_ | refine thn_norm ?_ | refine blk_norm ?_ | refine CW.condT rfl ?_ | refine CW.condF rfl ?_ | (refine hK _ _ ?_; clear hK K))
    first | refine WL.step rfl ?_ | refine WL.gstep rfl rfl rfl rfl ?_
    refine OpW.loadAgg (uc (ql D 0)).toList rfl vq rfl rfl ?_
    repeat (first | refine WL.nil ?_ | refine WL.auto (h := ?_) | refine WL.gskip rfl rfl rfl rfl ?_ | refine WL.gauto (h := ?_) | (refine CW.seq ?_; intro K hK) | refine CW.block ?_ | refine CW.region ?_ | refine CW.skip ?_ | refine CW.exit ?_ | refine CW.ret ?_ | (refine thn_ret (K := K) ?_; clear hK K) | refine thn_ret ?_ | refine blk_ret ?_ | (refine thn_exit (K := K) ?_; clear hK K) | refine thn_exit ?_ | refine blk_here ?_ | refine blk_past rfl ?_ | refine thn_norm ?_ | refine blk_norm ?_ | refine CW.condT rfl ?_ | refine CW.condF rfl ?_ | (refine hK _ _ ?_; clear hK K))
    refine WL.step0 ?_
    refine OpW.storeAll (d := uc (ql D 0)) rfl rfl rfl v4 rfl rfl (fun w5 p5 hb => ?_)
    repeat (first | refine WL.nil ?_ | refine WL.auto (h := ?_) | refine WL.gskip rfl rfl rfl rfl ?_ | refine WL.gauto (h := ?_) | (refine CW.seq ?_; intro K hK) | refine CW.block ?_ | refine CW.region ?_ | refine CW.skip ?_ | refine CW.exit ?_ | refine CW.ret ?_ | (refine thn_ret (K := K) ?_; clear hK K) | refine thn_ret ?_ | refine blk_ret ?_ | (refine thn_exit (K := K) ?_; clear hK K) | refine thn_exit ?_ | refine blk_here ?_ | refine blk_past rfl ?_ | refine thn_norm ?_ | refine blk_norm ?_ | refine CW.condT rfl ?_ | refine CW.condF rfl ?_ | (refine hK _ _ ?_; clear hK K))
    refine outC2 (v := .int .u64 (a % k : Nat)) Tryd.results27 rfl hb (congrArg (fun n : Nat => Value.int .u64 n) (by rw [Nat.pow_zero, Nat.div_one])) ⟨?_, G.chgNew p5.chg (fun i hi e => by omega)⟩ (Or.inr rfl)
    rw [uv_of (N := D) fun i hi => ql_last D i, e1]
end B
end Go.Proofs.YtbcmmamipjbfpaaDoor
