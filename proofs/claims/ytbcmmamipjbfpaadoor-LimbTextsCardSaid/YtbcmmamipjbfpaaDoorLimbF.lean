/- limb.Sub: of whole numbers below 2^256. -/
import Derived.Test.YtbcmmamipjbfpaaDoorLimbE
namespace Go.Proofs.YtbcmmamipjbfpaaDoor
namespace B
attribute [local irreducible] OpW WL CW Ret Sl Blk thn blk outOf
set_option linter.unusedVariables false
set_option linter.unusedSimpArgs false
set_option maxRecDepth 4000

/-- What is borrowed over the lowest k parts. -/
def bor (N M k : Nat) : Nat := if N % m64 ^ k < M % m64 ^ k then 1 else 0
theorem bor_le (N M k : Nat) : bor N M k ≤ 1 := by unfold bor; split <;> omega
theorem bor_div {B n m T r s b N M : Nat} (hB : 0 < B) (hr : r < B) (hs : s < B) (eN : r + B * n = N) (eM : s + B * m = M) (hm : m < T) (hb : b = if r < s then 1 else 0) : (N + B * T - M) / B = n + T - m - b := by
  obtain ⟨d, rfl⟩ : ∃ d, T = m + 1 + d := ⟨T - m - 1, by omega⟩
  have e : B * (m + 1 + d) = B * m + B + B * d := by rw [Nat.mul_add, Nat.mul_add, Nat.mul_one]
  by_cases h : r < s
  · rw [if_pos h] at hb
    have e2 : N + B * (m + 1 + d) - M = (r + B - s) + B * (n + d) := by
      rw [e, Nat.mul_add, ← eN, ← eM]
      omega
    rw [e2, Nat.add_mul_div_left _ _ hB, Nat.div_eq_of_lt (by omega)]
    omega
  · rw [if_neg h] at hb
    have e2 : N + B * (m + 1 + d) - M = (r - s) + B * (n + 1 + d) := by
      rw [e, Nat.mul_add, Nat.mul_add, Nat.mul_one, ← eN, ← eM]
      omega
    rw [e2, Nat.add_mul_div_left _ _ hB, Nat.div_eq_of_lt (by omega)]
    omega
theorem bor_next {N M : Nat} (hN : N < m256) (hM : M < m256) {k : Nat} (hk : k < 4) : (if lb N k < lb M k + bor N M k then 1 else 0) = bor N M (k + 1) ∧ (lb N k + m64 - lb M k - bor N M k) % m64 = lb (N + m256 - M) k := by
  have hB := pow_pos' k
  have hr := Nat.mod_lt N hB
  have hs := Nat.mod_lt M hB
  constructor
  · have e1 : bor N M (k + 1) = if N % m64 ^ k + m64 ^ k * lb N k < M % m64 ^ k + m64 ^ k * lb M k then 1 else 0 := by unfold bor; rw [mod_next, mod_next]
    rw [e1]
    unfold bor
    generalize N % m64 ^ k = r at *
    generalize M % m64 ^ k = s at *
    generalize lb N k = x
    generalize lb M k = y
    generalize m64 ^ k = B at *
    rcases Nat.lt_trichotomy x y with h | h | h
    · have h1 : B * (x + 1) ≤ B * y := Nat.mul_le_mul_left _ h
      rw [Nat.mul_add, Nat.mul_one] at h1
      rw [if_pos (by omega), if_pos (by omega)]
    · subst h
      by_cases h2 : r < s
      · rw [if_pos h2, if_pos (by omega), if_pos (by omega)]
      · rw [if_neg h2, if_neg (by omega), if_neg (by omega)]
    · have h1 : B * (y + 1) ≤ B * x := Nat.mul_le_mul_left _ h
      rw [Nat.mul_add, Nat.mul_one] at h1
      rw [if_neg (by split <;> omega), if_neg (by omega)]
  · have eT : m256 = m64 ^ k * (m64 * m64 ^ (3 - k)) := by
      rw [← Nat.pow_succ', ← Nat.pow_add]
      unfold m256
      congr 1
      omega
    have hm : M / m64 ^ k < m64 * m64 ^ (3 - k) := by
      rw [Nat.div_lt_iff_lt_mul hB, Nat.mul_comm, ← eT]
      exact hM
    have hb1 := bor_le N M k
    have e3 : (N + m256 - M) / m64 ^ k = N / m64 ^ k + m64 * m64 ^ (3 - k) - M / m64 ^ k - bor N M k := by
      rw [eT]
      exact bor_div hB hr hs (Nat.mod_add_div N (m64 ^ k)) (Nat.mod_add_div M (m64 ^ k)) hm rfl
    unfold lb
    rw [e3]
    generalize N / m64 ^ k = n
    generalize M / m64 ^ k = m at *
    generalize bor N M k = b at *
    generalize m64 ^ (3 - k) = t at *
    unfold m64 at *
    omega
def subN (N M : Nat) : Nat × Bool := if M ≤ N then (N - M, true) else (0, false)
theorem bor_last {N M : Nat} (hN : N < m256) (hM : M < m256) : bor N M 4 = 0 ↔ M ≤ N := by
  unfold bor
  rw [show m64 ^ 4 = m256 from rfl, Nat.mod_eq_of_lt hN, Nat.mod_eq_of_lt hM]
  constructor
  · intro h
    split at h
    · cases h
    · omega
  · intro h
    rw [if_neg (by omega)]
theorem lb_sub {N M : Nat} (h : M ≤ N) {i : Nat} (hi : i < 4) : lb (N + m256 - M) i = lb (N - M) i := by
  unfold lb
  have eT : m256 = m64 ^ i * (m64 * m64 ^ (3 - i)) := by
    rw [← Nat.pow_succ', ← Nat.pow_add]
    unfold m256
    congr 1
    omega
  rw [show N + m256 - M = (N - M) + m256 from by omega, eT, Nat.add_mul_div_left _ _ (pow_pos' i), Nat.add_mul_mod_self_left]
theorem Sub20 (N M : Nat) (hN : N < m256) (hM : M < m256) (w : World) : Ret Tryd.prog 20 #[uv N, uv M] w fun v w' => v = .tuple #[uv (subN N M).1, .bool (subN N M).2] ∧ Grow w w' := by
  obtain ⟨D, hD⟩ : ∃ D, D = N + m256 - M := ⟨_, rfl⟩
  have hnext := @bor_next N M hN hM
  have hsub := @lb_sub N M
  rw [← hD] at hnext hsub
  clear hD
  refine Ret.enter (fn := Tryd.f20) (N := 29) Tryd.func20 rfl Tryd.ntmps20 rfl ?_
  repeat (first | refine WL.nil ?_ | refine WL.auto (h := ?_) | refine WL.gskip rfl rfl rfl rfl ?_ | refine WL.gauto (h := ?_) | (refine CW.seq ?_; intro K hK) | refine CW.block ?_ | refine CW.region ?_ | refine CW.skip ?_ | refine CW.exit ?_ | refine CW.ret ?_ | (refine thn_ret (K := K) ?_; clear hK K) | refine thn_ret ?_ | refine blk_ret ?_ | (refine thn_exit (K := K) ?_; clear hK K) | refine thn_exit ?_ | refine blk_here ?_ | refine blk_past rfl ?_ | refine thn_norm ?_ | refine blk_norm ?_ | refine CW.condT rfl ?_ | refine CW.condF rfl ?_ | (refine hK _ _ ?_; clear hK K))
  first | refine WL.step rfl ?_ | refine WL.gstep rfl rfl rfl rfl ?_
  refine OpW.box (v := uv N) rfl ?_
  intro b1 w1 n1
  have hb1 : Blk w1 b1 (uc (lb N)) 24 := n1.blk
  repeat (first | refine WL.nil ?_ | refine WL.auto (h := ?_) | refine WL.gskip rfl rfl rfl rfl ?_ | refine WL.gauto (h := ?_) | (refine CW.seq ?_; intro K hK) | refine CW.block ?_ | refine CW.region ?_ | refine CW.skip ?_ | refine CW.exit ?_ | refine CW.ret ?_ | (refine thn_ret (K := K) ?_; clear hK K) | refine thn_ret ?_ | refine blk_ret ?_ | (refine thn_exit (K := K) ?_; clear hK K) | refine thn_exit ?_ | refine blk_here ?_ | refine blk_past rfl ?_ | refine thn_norm ?_ | refine blk_norm ?_ | refine CW.condT rfl ?_ | refine CW.condF rfl ?_ | (refine hK _ _ ?_; clear hK K))
  first | refine WL.step rfl ?_ | refine WL.gstep rfl rfl rfl rfl ?_
  refine OpW.box (v := uv M) rfl ?_
  intro b2 w2 n2
  have hb2 : Blk w2 b2 (uc (lb M)) 24 := n2.blk
  repeat (first | refine WL.nil ?_ | refine WL.auto (h := ?_) | refine WL.gskip rfl rfl rfl rfl ?_ | refine WL.gauto (h := ?_) | (refine CW.seq ?_; intro K hK) | refine CW.block ?_ | refine CW.region ?_ | refine CW.skip ?_ | refine CW.exit ?_ | refine CW.ret ?_ | (refine thn_ret (K := K) ?_; clear hK K) | refine thn_ret ?_ | refine blk_ret ?_ | (refine thn_exit (K := K) ?_; clear hK K) | refine thn_exit ?_ | refine blk_here ?_ | refine blk_past rfl ?_ | refine thn_norm ?_ | refine blk_norm ?_ | refine CW.condT rfl ?_ | refine CW.condF rfl ?_ | (refine hK _ _ ?_; clear hK K))
  first | refine WL.step rfl ?_ | refine WL.gstep rfl rfl rfl rfl ?_
  refine OpW.alloc (fun b4 w3 n3 => ?_)
  have hb4 : Blk w3 b4 (uc fun _ => 0) 24 := n3.blk
  replace hb1 := hb1.grow (n2.grow.then n3.grow)
  replace hb2 := hb2.grow n3.grow
  have g3 := n1.grow.then (n2.grow.then n3.grow)
  have z1 := n1.grow.size
  have z2 := n2.grow.size
  have f1 := n1.fresh
  have f2 := n2.fresh
  have f3 := n3.fresh
  have l1 := n1.blk.lt
  have l2 := n2.blk.lt
  have n21 : ¬ (fun b => b = b1) b2 := fun (e : b2 = b1) => by omega
  have n41 : ¬ (fun b => b = b1) b4 := fun (e : b4 = b1) => by omega
  have hb1' : Blk w3 b1 (uc fun j => if j < 0 then lb D j else lb N j) 24 := by
    rw [uc_congr (g := lb N) fun i _ => if_neg (by omega)]; exact hb1
  clear hb1
  repeat (first | refine WL.nil ?_ | refine WL.auto (h := ?_) | refine WL.gskip rfl rfl rfl rfl ?_ | refine WL.gauto (h := ?_) | (refine CW.seq ?_; intro K hK) | refine CW.block ?_ | refine CW.region ?_ | refine CW.skip ?_ | refine CW.exit ?_ | refine CW.ret ?_ | (refine thn_ret (K := K) ?_; clear hK K) | refine thn_ret ?_ | refine blk_ret ?_ | (refine thn_exit (K := K) ?_; clear hK K) | refine thn_exit ?_ | refine blk_here ?_ | refine blk_past rfl ?_ | refine thn_norm ?_ | refine blk_norm ?_ | refine CW.condT rfl ?_ | refine CW.condF rfl ?_ | (refine hK _ _ ?_; clear hK K))
  refine CW.loop (fun n' e w3 => ∃ k, k ≤ 4 ∧ n' = 4 - k ∧ Blk w3 b1 (uc fun j => if j < k then lb D j else lb N j) 24 ∧ Blk w3 b2 (uc (lb M)) 24 ∧ Blk w3 b4 (uc fun _ => 0) 24 ∧ Grow w w3 ∧
    ∃ e0, e = upd (upd (upd (upd (upd e0 2 (.pointer (some ⟨b1, 0, none⟩))) 3 (.pointer (some ⟨b2, 0, none⟩))) 4 (.pointer (some ⟨b4, 0, none⟩))) 6 (.int .u64 (bor N M k : Nat))) 8 (.int .i64 k)) 4 ?_ ?_
  · exact ⟨0, by omega, rfl, hb1', hb2, hb4, g3, rep5 rfl rfl rfl (congrArg (fun n : Nat => Value.int .u64 n) (by unfold bor; simp [Nat.mod_one])) rfl⟩
  clear hb1' hb2 hb4 g3
  rintro n' e w3 ⟨k, hk, rfl, hb1, hb2, hb4, g3, e0, rfl⟩ KJ hJ
  repeat (first | refine WL.nil ?_ | refine WL.auto (h := ?_) | refine WL.gskip rfl rfl rfl rfl ?_ | refine WL.gauto (h := ?_) | (refine CW.seq ?_; intro K hK) | refine CW.block ?_ | refine CW.region ?_ | refine CW.skip ?_ | refine CW.exit ?_ | refine CW.ret ?_ | (refine thn_ret (K := K) ?_; clear hK K) | refine thn_ret ?_ | refine blk_ret ?_ | (refine thn_exit (K := K) ?_; clear hK K) | refine thn_exit ?_ | refine blk_here ?_ | refine blk_past rfl ?_ | refine thn_norm ?_ | refine blk_norm ?_ | refine CW.condT rfl ?_ | refine CW.condF rfl ?_ | (refine hK _ _ ?_; clear hK K))
  refine CW.condP rfl (fun h1 => ?_) (fun h1 => ?_)
  · obtain ⟨c1, c2⟩ := hnext (k := k) (by omega)
    repeat (first | refine WL.nil ?_ | refine WL.auto (h := ?_) | refine WL.gskip rfl rfl rfl rfl ?_ | refine WL.gauto (h := ?_) | (refine CW.seq ?_; intro K hK) | refine CW.block ?_ | refine CW.region ?_ | refine CW.skip ?_ | refine CW.exit ?_ | refine CW.ret ?_ | (refine thn_ret (K := K) ?_; clear hK K) | refine thn_ret ?_ | refine blk_ret ?_ | (refine thn_exit (K := K) ?_; clear hK K) | refine thn_exit ?_ | refine blk_here ?_ | refine blk_past rfl ?_ | refine thn_norm ?_ | refine blk_norm ?_ | refine CW.condT rfl ?_ | refine CW.condF rfl ?_ | (refine hK _ _ ?_; clear hK K))
    refine CW.held (· = b1) (.take 0 (.take 1 (.take 2 (.take 4 (.take 5 (.take 6 (.take 7 (.one 3 (.one 8 (.take 9 (.take 10 (.take 11 (.take 12 (.one 13 (.one 14 .nil))))))))))))))) rfl (by kernel_rfl) (by kernel_rfl) (fun w4 g4 => ?_)
    (
  repeat (first | refine AL.nil ?_ | refine AL.auto (hn := ?_) | refine AL.gskip rfl rfl rfl rfl rfl ?_ | refine AL.goneSkip rfl rfl rfl rfl rfl ?_ | refine AL.gauto (hn := ?_) | refine AL.oauto (hn := ?_))
  refine AL.take rfl rfl rfl (fun w hg => OpW.idxA k rfl rfl rfl (by omega) ⟨rfl, rfl⟩) ?_
  repeat (first | refine AL.nil ?_ | refine AL.auto (hn := ?_) | refine AL.gskip rfl rfl rfl rfl rfl ?_ | refine AL.goneSkip rfl rfl rfl rfl rfl ?_ | refine AL.gauto (hn := ?_) | refine AL.oauto (hn := ?_))
  refine AL.take rfl rfl rfl (fun w hg => OpW.idxA k rfl rfl rfl (by omega) ⟨rfl, rfl⟩) ?_
  refine AL.take rfl rfl rfl (fun w hg => OpW.load (v := .int .u64 (lb M k : Nat)) rfl (Blk.keep hb2 hg n21) (by rw [Nat.zero_add]; exact uc_get _ _ (by omega)) ⟨rfl, rfl⟩) ?_
  repeat (first | refine AL.nil ?_ | refine AL.auto (hn := ?_) | refine AL.gskip rfl rfl rfl rfl rfl ?_ | refine AL.goneSkip rfl rfl rfl rfl rfl ?_ | refine AL.gauto (hn := ?_) | refine AL.oauto (hn := ?_))
  first | refine AL.one rfl rfl ?_ | refine AL.gone rfl rfl rfl rfl rfl ?_
  refine OpW.load (v := .int .u64 (lb N k : Nat)) rfl (Blk.grow hb1 g4) (by rw [Nat.zero_add, uc_get _ _ (by omega)]; simp) ?_
  refine ⟨fun h => h, ?_⟩
  repeat (first | refine AL.nil ?_ | refine AL.auto (hn := ?_) | refine AL.gskip rfl rfl rfl rfl rfl ?_ | refine AL.goneSkip rfl rfl rfl rfl rfl ?_ | refine AL.gauto (hn := ?_) | refine AL.oauto (hn := ?_))
  first | refine AL.one rfl rfl ?_ | refine AL.gone rfl rfl rfl rfl rfl ?_)
    refine OpW.callNow (sub36 (lb N k) (lb M k) (bor N M k) (bor_le N M k) _) rfl ?_
    rw [c1, c2]
    refine ⟨fun h => h, ?_⟩
    repeat (first | refine AL.nil ?_ | refine AL.auto (hn := ?_) | refine AL.gskip rfl rfl rfl rfl rfl ?_ | refine AL.goneSkip rfl rfl rfl rfl rfl ?_ | refine AL.gauto (hn := ?_) | refine AL.oauto (hn := ?_))
    refine AL.take rfl rfl rfl (fun w hg => OpW.idxA k rfl rfl rfl (by omega) ⟨rfl, rfl⟩) ?_
    repeat (first | refine AL.nil ?_ | refine AL.auto (hn := ?_) | refine AL.gskip rfl rfl rfl rfl rfl ?_ | refine AL.goneSkip rfl rfl rfl rfl rfl ?_ | refine AL.gauto (hn := ?_) | refine AL.oauto (hn := ?_))
    refine AL.one0 rfl ?_
    refine OpW.store (v := .int .u64 (lb D k : Nat)) rfl rfl rfl (hb1.grow g4) (Nat.ble_eq_true_of_le (by rw [uc_size]; omega)) (c' := uc fun j => if j < k + 1 then lb D j else lb N j) (by
      rw [Nat.zero_add, uc_set _ _ _ (by omega)]
      refine uc_congr fun i _ => ?_
      by_cases h2 : i = k
      · rw [if_pos h2, if_pos (by omega), h2]
      · rw [if_neg h2]
        by_cases h3 : i < k
        · rw [if_pos h3, if_pos (by omega)]
        · rw [if_neg h3, if_neg (by omega)]) ?_
    intro w5 p5 hb5
    refine ⟨fun h => h.andThen p5.chg, ?_⟩
    repeat (first | refine AL.nil ?_ | refine AL.auto (hn := ?_) | refine AL.gskip rfl rfl rfl rfl rfl ?_ | refine AL.goneSkip rfl rfl rfl rfl rfl ?_ | refine AL.gauto (hn := ?_) | refine AL.oauto (hn := ?_))
    repeat (first | refine WL.nil ?_ | refine WL.auto (h := ?_) | refine WL.gskip rfl rfl rfl rfl ?_ | refine WL.gauto (h := ?_) | (refine CW.seq ?_; intro K hK) | refine CW.block ?_ | refine CW.region ?_ | refine CW.skip ?_ | refine CW.exit ?_ | refine CW.ret ?_ | (refine thn_ret (K := K) ?_; clear hK K) | refine thn_ret ?_ | refine blk_ret ?_ | (refine thn_exit (K := K) ?_; clear hK K) | refine thn_exit ?_ | refine blk_here ?_ | refine blk_past rfl ?_ | refine thn_norm ?_ | refine blk_norm ?_ | refine CW.condT rfl ?_ | refine CW.condF rfl ?_ | (refine hK _ _ ?_; clear hK K))
    exact hJ (4 - (k + 1)) _ _ (by omega) ⟨k + 1, by omega, rfl, hb5, (hb2.grow g4).keep p5.chg n21, (hb4.grow g4).keep p5.chg n41, (g3.then g4).chgNew p5.chg (fun i hi e => by omega), rep5 rfl rfl rfl rfl (congrArg (Value.int .i64) (by omega))⟩
  · obtain rfl : k = 4 := by omega
    clear hJ
    have hlast := bor_last hN hM
    repeat (first | refine WL.nil ?_ | refine WL.auto (h := ?_) | refine WL.gskip rfl rfl rfl rfl ?_ | refine WL.gauto (h := ?_) | (refine CW.seq ?_; intro K hK) | refine CW.block ?_ | refine CW.region ?_ | refine CW.skip ?_ | refine CW.exit ?_ | refine CW.ret ?_ | (refine thn_ret (K := K) ?_; clear hK K) | refine thn_ret ?_ | refine blk_ret ?_ | (refine thn_exit (K := K) ?_; clear hK K) | refine thn_exit ?_ | refine blk_here ?_ | refine blk_past rfl ?_ | refine thn_norm ?_ | refine blk_norm ?_ | refine CW.condT rfl ?_ | refine CW.condF rfl ?_ | (refine hK _ _ ?_; clear hK K))
    refine CW.condP rfl (fun h2 => ?_) (fun h2 => ?_)
    · have e1 : subN N M = (0, false) := by unfold subN; rw [if_neg (fun h => h2 (by rw [hlast.2 h]; rfl))]
      rw [e1]
      repeat (first | refine WL.nil ?_ | refine WL.auto (h := ?_) | refine WL.gskip rfl rfl rfl rfl ?_ | refine WL.gauto (h := ?_) | (refine CW.seq ?_; intro K hK) | refine CW.block ?_ | refine CW.region ?_ | refine CW.skip ?_ | refine CW.exit ?_ | refine CW.ret ?_ | (refine thn_ret (K := K) ?_; clear hK K) | refine thn_ret ?_ | refine blk_ret ?_ | (refine thn_exit (K := K) ?_; clear hK K) | refine thn_exit ?_ | refine blk_here ?_ | refine blk_past rfl ?_ | refine thn_norm ?_ | refine blk_norm ?_ | refine CW.condT rfl ?_ | refine CW.condF rfl ?_ | (refine hK _ _ ?_; clear hK K))
      first | refine WL.step rfl ?_ | refine WL.gstep rfl rfl rfl rfl ?_
      refine OpW.buildA (cells := uc fun _ => 0) rfl rfl ?_
      repeat (first | refine WL.nil ?_ | refine WL.auto (h := ?_) | refine WL.gskip rfl rfl rfl rfl ?_ | refine WL.gauto (h := ?_) | (refine CW.seq ?_; intro K hK) | refine CW.block ?_ | refine CW.region ?_ | refine CW.skip ?_ | refine CW.exit ?_ | refine CW.ret ?_ | (refine thn_ret (K := K) ?_; clear hK K) | refine thn_ret ?_ | refine blk_ret ?_ | (refine thn_exit (K := K) ?_; clear hK K) | refine thn_exit ?_ | refine blk_here ?_ | refine blk_past rfl ?_ | refine thn_norm ?_ | refine blk_norm ?_ | refine CW.condT rfl ?_ | refine CW.condF rfl ?_ | (refine hK _ _ ?_; clear hK K))
      refine WL.step0 ?_
      refine OpW.storeAll (d := uc fun _ => 0) rfl rfl rfl hb4 rfl rfl (fun w5 p5 hb => ?_)
      repeat (first | refine WL.nil ?_ | refine WL.auto (h := ?_) | refine WL.gskip rfl rfl rfl rfl ?_ | refine WL.gauto (h := ?_) | (refine CW.seq ?_; intro K hK) | refine CW.block ?_ | refine CW.region ?_ | refine CW.skip ?_ | refine CW.exit ?_ | refine CW.ret ?_ | (refine thn_ret (K := K) ?_; clear hK K) | refine thn_ret ?_ | refine blk_ret ?_ | (refine thn_exit (K := K) ?_; clear hK K) | refine thn_exit ?_ | refine blk_here ?_ | refine blk_past rfl ?_ | refine thn_norm ?_ | refine blk_norm ?_ | refine CW.condT rfl ?_ | refine CW.condF rfl ?_ | (refine hK _ _ ?_; clear hK K))
      refine outC2 (v := .bool false) Tryd.results20 rfl hb rfl ⟨?_, g3.chgNew p5.chg (fun i hi e => by omega)⟩ (Or.inr rfl)
      rw [uv_zero]
    · have e1 : subN N M = (N - M, true) := by unfold subN; rw [if_pos (hlast.1 (by omega))]
      rw [e1]
      repeat (first | refine WL.nil ?_ | refine WL.auto (h := ?_) | refine WL.gskip rfl rfl rfl rfl ?_ | refine WL.gauto (h := ?_) | (refine CW.seq ?_; intro K hK) | refine CW.block ?_ | refine CW.region ?_ | refine CW.skip ?_ | refine CW.exit ?_ | refine CW.ret ?_ | (refine thn_ret (K := K) ?_; clear hK K) | refine thn_ret ?_ | refine blk_ret ?_ | (refine thn_exit (K := K) ?_; clear hK K) | refine thn_exit ?_ | refine blk_here ?_ | refine blk_past rfl ?_ | refine thn_norm ?_ | refine blk_norm ?_ | refine CW.condT rfl ?_ | refine CW.condF rfl ?_ | (refine hK _ _ ?_; clear hK K))
      first | refine WL.step rfl ?_ | refine WL.gstep rfl rfl rfl rfl ?_
      refine OpW.loadAgg (uc fun j => if j < 4 then lb D j else lb N j).toList rfl hb1 rfl rfl ?_
      repeat (first | refine WL.nil ?_ | refine WL.auto (h := ?_) | refine WL.gskip rfl rfl rfl rfl ?_ | refine WL.gauto (h := ?_) | (refine CW.seq ?_; intro K hK) | refine CW.block ?_ | refine CW.region ?_ | refine CW.skip ?_ | refine CW.exit ?_ | refine CW.ret ?_ | (refine thn_ret (K := K) ?_; clear hK K) | refine thn_ret ?_ | refine blk_ret ?_ | (refine thn_exit (K := K) ?_; clear hK K) | refine thn_exit ?_ | refine blk_here ?_ | refine blk_past rfl ?_ | refine thn_norm ?_ | refine blk_norm ?_ | refine CW.condT rfl ?_ | refine CW.condF rfl ?_ | (refine hK _ _ ?_; clear hK K))
      refine WL.step0 ?_
      refine OpW.storeAll (d := uc fun j => if j < 4 then lb D j else lb N j) rfl rfl rfl hb4 rfl rfl (fun w5 p5 hb => ?_)
      repeat (first | refine WL.nil ?_ | refine WL.auto (h := ?_) | refine WL.gskip rfl rfl rfl rfl ?_ | refine WL.gauto (h := ?_) | (refine CW.seq ?_; intro K hK) | refine CW.block ?_ | refine CW.region ?_ | refine CW.skip ?_ | refine CW.exit ?_ | refine CW.ret ?_ | (refine thn_ret (K := K) ?_; clear hK K) | refine thn_ret ?_ | refine blk_ret ?_ | (refine thn_exit (K := K) ?_; clear hK K) | refine thn_exit ?_ | refine blk_here ?_ | refine blk_past rfl ?_ | refine thn_norm ?_ | refine blk_norm ?_ | refine CW.condT rfl ?_ | refine CW.condF rfl ?_ | (refine hK _ _ ?_; clear hK K))
      refine outC2 (v := .bool true) Tryd.results20 rfl hb rfl ⟨?_, g3.chgNew p5.chg (fun i hi e => by omega)⟩ (Or.inr rfl)
      rw [uv_of (N := N - M) fun i hi => by rw [if_pos hi]; exact hsub (hlast.1 (by omega)) hi]
      try rw [e1]
end B
end Go.Proofs.YtbcmmamipjbfpaaDoor
