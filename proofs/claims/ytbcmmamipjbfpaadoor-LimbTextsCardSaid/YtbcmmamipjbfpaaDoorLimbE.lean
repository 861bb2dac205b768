/- limb.Add, limb.Sub: of whole numbers below 2^256. -/
import Derived.Test.YtbcmmamipjbfpaaDoorLimbD
namespace Go.Proofs.YtbcmmamipjbfpaaDoor
namespace B
attribute [local irreducible] OpW WL CW Ret Sl Blk thn blk outOf
set_option linter.unusedVariables false
set_option linter.unusedSimpArgs false
set_option maxRecDepth 4000

theorem mod_next (N k : Nat) : N % m64 ^ (k + 1) = N % m64 ^ k + m64 ^ k * lb N k := by
  unfold lb
  rw [Nat.pow_succ, Nat.mod_mul]
theorem pow_pos' (k : Nat) : 0 < m64 ^ k := Nat.pow_pos (by decide)
/-- What is carried over the lowest k parts. -/
def car (N M k : Nat) : Nat := (N % m64 ^ k + M % m64 ^ k) / m64 ^ k
theorem car_le (N M k : Nat) : car N M k ≤ 1 := by
  unfold car
  have h := pow_pos' k
  have h1 := Nat.mod_lt N h
  have h2 := Nat.mod_lt M h
  have : (N % m64 ^ k + M % m64 ^ k) / m64 ^ k < 2 := by
    rw [Nat.div_lt_iff_lt_mul h]
    omega
  omega
theorem car_next (N M k : Nat) : (lb N k + lb M k + car N M k) / m64 = car N M (k + 1) ∧ (lb N k + lb M k + car N M k) % m64 = lb (N + M) k := by
  have h := pow_pos' k
  constructor
  · unfold car
    rw [mod_next, mod_next]
    have e : N % m64 ^ k + m64 ^ k * lb N k + (M % m64 ^ k + m64 ^ k * lb M k) = (N % m64 ^ k + M % m64 ^ k) + m64 ^ k * (lb N k + lb M k) := by
      rw [Nat.mul_add]; omega
    rw [e, Nat.pow_succ, ← Nat.div_div_eq_div_mul, Nat.add_mul_div_left _ _ h, Nat.add_comm (lb N k + lb M k)]
  · have e : N + M = (N % m64 ^ k + M % m64 ^ k) + m64 ^ k * (N / m64 ^ k + M / m64 ^ k) := by
      have h1 := Nat.mod_add_div N (m64 ^ k)
      have h2 := Nat.mod_add_div M (m64 ^ k)
      rw [Nat.mul_add]
      omega
    have e2 : lb (N + M) k = (car N M k + (N / m64 ^ k + M / m64 ^ k)) % m64 := by
      have e3 : (N + M) / m64 ^ k = car N M k + (N / m64 ^ k + M / m64 ^ k) := by
        rw [e, Nat.add_mul_div_left _ _ h]
        rfl
      unfold lb
      rw [e3]
    rw [e2]
    unfold lb
    have h3 : m64 = 18446744073709551616 := rfl
    generalize N / m64 ^ k = x
    generalize M / m64 ^ k = y
    generalize car N M k = c
    rw [h3]
    omega
def addN (N M : Nat) : Nat × Bool := if N + M < m256 then (N + M, true) else (0, false)
theorem car_last {N M : Nat} (hN : N < m256) (hM : M < m256) : car N M 4 = 0 ↔ N + M < m256 := by
  unfold car
  rw [show m64 ^ 4 = m256 from rfl, Nat.mod_eq_of_lt hN, Nat.mod_eq_of_lt hM, Nat.div_eq_zero_iff]
  constructor
  · rintro (h | h)
    · exact absurd h (by decide)
    · exact h
  · exact Or.inr
theorem Add18 (N M : Nat) (hN : N < m256) (hM : M < m256) (w : World) : Ret Tryd.prog 18 #[uv N, uv M] w fun v w' => v = .tuple #[uv (addN N M).1, .bool (addN N M).2] ∧ Grow w w' := by
  refine Ret.enter (fn := Tryd.f18) (N := 29) Tryd.func18 rfl Tryd.ntmps18 rfl ?_
  repeat (first | refine WL.nil ?_ | refine WL.auto (h := ?_) | refine WL.gskip rfl rfl rfl rfl ?_ | refine WL.gauto (h := ?_) | (refine CW.seq ?_; intro K hK) | refine CW.block ?_ | refine CW.region ?_ | refine CW.skip ?_ | refine CW.exit ?_ | refine CW.ret ?_ | (refine thn_ret (K := K) ?_; clear hK K) | refine thn_ret ?_ | refine blk_ret ?_ | (refine thn_exit (K := K) ?_; clear hK K) | refine thn_exit ?_ | refine blk_here ?_ | refine blk_past rfl ?_ | refine thn_norm ?_ | refine blk_norm ?_ | refine CW.condT rfl ?_ | refine CW.condF rfl ?_ | (refine hK _ _ ?_; clear hK K))
  first | refine WL.step rfl ?_ | refine WL.gstep rfl rfl rfl rfl ?_
  refine OpW.box (v := uv N) rfl ?_
  intro b1 w1 n1
  have hb1 : Blk w1 b1 (uc (lb N)) 24 := n1.blk
  repeat (first | refine WL.nil ?_ | refine WL.auto (h := ?_) | refine WL.gskip rfl rfl rfl rfl ?_ | refine WL.gauto (h := ?_) | (refine CW.seq ?_; intro K hK) | refine CW.block ?_ | refine CW.region ?_ | refine CW.skip ?_ | refine CW.exit ?_ | refine CW.ret ?_ | (refine thn_ret (K := K) ?_; clear hK K) | refine thn_ret ?_ | refine blk_ret ?_ | (refine thn_exit (K := K) ?_; clear hK K) | refine thn_exit ?_ | refine blk_here ?_ | refine blk_past rfl ?_ | refine thn_norm ?_ | refine blk_norm ?_ | refine CW.condT rfl ?_ | refine CW.condF rfl ?_ | (refine hK _ _ ?_; clear hK K))
  first | refine WL.step rfl ?_ | refine WL.gstep rfl rfl rfl rfl ?_
  refine OpW.box (v := uv M) rfl ?_
  intro b2 w2 n2
  have hb2 : Blk w2 b2 (uc (lb M)) 24 := n2.blk
  repeat (first | refine WL.nil ?_ | refine WL.auto (h := ?_) | refine WL.gskip rfl rfl rfl rfl ?_ | refine WL.gauto (h := ?_) | (refine CW.seq ?_; intro K hK) | refine CW.block ?_ | refine CW.region ?_ | refine CW.skip ?_ | refine CW.exit ?_ | refine CW.ret ?_ | (refine thn_ret (K := K) ?_; clear hK K) | refine thn_ret ?_ | refine blk_ret ?_ | (refine thn_exit (K := K) ?_; clear hK K) | refine thn_exit ?_ | refine blk_here ?_ | refine blk_past rfl ?_ | refine thn_norm ?_ | refine blk_norm ?_ | refine CW.condT rfl ?_ | refine CW.condF rfl ?_ | (refine hK _ _ ?_; clear hK K))
  first | refine WL.step rfl ?_ | refine WL.gstep rfl rfl rfl rfl ?_
  refine OpW.alloc (fun b4 w3 n3 => ?_)
  have hb4 : Blk w3 b4 (uc fun _ => 0) 24 := n3.blk
  replace hb1 := hb1.grow (n2.grow.then n3.grow)
  replace hb2 := hb2.grow n3.grow
  have g3 := n1.grow.then (n2.grow.then n3.grow)
  have z1 := n1.grow.size
  have z2 := n2.grow.size
  have f1 := n1.fresh
  have f2 := n2.fresh
  have f3 := n3.fresh
  have l1 := n1.blk.lt
  have l2 := n2.blk.lt
  have n21 : ¬ (fun b => b = b1) b2 := fun (e : b2 = b1) => by omega
  have n41 : ¬ (fun b => b = b1) b4 := fun (e : b4 = b1) => by omega
  have hb1' : Blk w3 b1 (uc fun j => if j < 0 then lb (N + M) j else lb N j) 24 := by
    rw [uc_congr (g := lb N) fun i _ => if_neg (by omega)]; exact hb1
  clear hb1
  repeat (first | refine WL.nil ?_ | refine WL.auto (h := ?_) | refine WL.gskip rfl rfl rfl rfl ?_ | refine WL.gauto (h := ?_) | (refine CW.seq ?_; intro K hK) | refine CW.block ?_ | refine CW.region ?_ | refine CW.skip ?_ | refine CW.exit ?_ | refine CW.ret ?_ | (refine thn_ret (K := K) ?_; clear hK K) | refine thn_ret ?_ | refine blk_ret ?_ | (refine thn_exit (K := K) ?_; clear hK K) | refine thn_exit ?_ | refine blk_here ?_ | refine blk_past rfl ?_ | refine thn_norm ?_ | refine blk_norm ?_ | refine CW.condT rfl ?_ | refine CW.condF rfl ?_ | (refine hK _ _ ?_; clear hK K))
  refine CW.loop (fun n' e w3 => ∃ k, k ≤ 4 ∧ n' = 4 - k ∧ Blk w3 b1 (uc fun j => if j < k then lb (N + M) j else lb N j) 24 ∧ Blk w3 b2 (uc (lb M)) 24 ∧ Blk w3 b4 (uc fun _ => 0) 24 ∧ Grow w w3 ∧
    ∃ e0, e = upd (upd (upd (upd (upd e0 2 (.pointer (some ⟨b1, 0, none⟩))) 3 (.pointer (some ⟨b2, 0, none⟩))) 4 (.pointer (some ⟨b4, 0, none⟩))) 6 (.int .u64 (car N M k : Nat))) 8 (.int .i64 k)) 4 ?_ ?_
  · exact ⟨0, by omega, rfl, hb1', hb2, hb4, g3, rep5 rfl rfl rfl (congrArg (fun n : Nat => Value.int .u64 n) (by unfold car; simp [Nat.mod_one])) rfl⟩
  clear hb1' hb2 hb4 g3
  rintro n' e w3 ⟨k, hk, rfl, hb1, hb2, hb4, g3, e0, rfl⟩ KJ hJ
  repeat (first | refine WL.nil ?_ | refine WL.auto (h := ?_) | refine WL.gskip rfl rfl rfl rfl ?_ | refine WL.gauto (h := ?_) | (refine CW.seq ?_; intro K hK) | refine CW.block ?_ | refine CW.region ?_ | refine CW.skip ?_ | refine CW.exit ?_ | refine CW.ret ?_ | (refine thn_ret (K := K) ?_; clear hK K) | refine thn_ret ?_ | refine blk_ret ?_ | (refine thn_exit (K := K) ?_; clear hK K) | refine thn_exit ?_ | refine blk_here ?_ | refine blk_past rfl ?_ | refine thn_norm ?_ | refine blk_norm ?_ | refine CW.condT rfl ?_ | refine CW.condF rfl ?_ | (refine hK _ _ ?_; clear hK K))
  refine CW.condP rfl (fun h1 => ?_) (fun h1 => ?_)
  · obtain ⟨c1, c2⟩ := car_next N M k
    repeat (first | refine WL.nil ?_ | refine WL.auto (h := ?_) | refine WL.gskip rfl rfl rfl rfl ?_ | refine WL.gauto (h := ?_) | (refine CW.seq ?_; intro K hK) | refine CW.block ?_ | refine CW.region ?_ | refine CW.skip ?_ | refine CW.exit ?_ | refine CW.ret ?_ | (refine thn_ret (K := K) ?_; clear hK K) | refine thn_ret ?_ | refine blk_ret ?_ | (refine thn_exit (K := K) ?_; clear hK K) | refine thn_exit ?_ | refine blk_here ?_ | refine blk_past rfl ?_ | refine thn_norm ?_ | refine blk_norm ?_ | refine CW.condT rfl ?_ | refine CW.condF rfl ?_ | (refine hK _ _ ?_; clear hK K))
    refine CW.held (· = b1) (.take 0 (.take 1 (.take 2 (.take 4 (.take 5 (.take 6 (.take 7 (.one 3 (.one 8 (.take 9 (.take 10 (.take 11 (.take 12 (.one 13 (.one 14 .nil))))))))))))))) rfl (by kernel_rfl) (by kernel_rfl) (fun w4 g4 => ?_)
    (
  repeat (first | refine AL.nil ?_ | refine AL.auto (hn := ?_) | refine AL.gskip rfl rfl rfl rfl rfl ?_ | refine AL.goneSkip rfl rfl rfl rfl rfl ?_ | refine AL.gauto (hn := ?_) | refine AL.oauto (hn := ?_))
  refine AL.take rfl rfl rfl (fun w hg => OpW.idxA k rfl rfl rfl (by omega) ⟨rfl, rfl⟩) ?_
  repeat (first | refine AL.nil ?_ | refine AL.auto (hn := ?_) | refine AL.gskip rfl rfl rfl rfl rfl ?_ | refine AL.goneSkip rfl rfl rfl rfl rfl ?_ | refine AL.gauto (hn := ?_) | refine AL.oauto (hn := ?_))
  refine AL.take rfl rfl rfl (fun w hg => OpW.idxA k rfl rfl rfl (by omega) ⟨rfl, rfl⟩) ?_
  refine AL.take rfl rfl rfl (fun w hg => OpW.load (v := .int .u64 (lb M k : Nat)) rfl (Blk.keep hb2 hg n21) (by rw [Nat.zero_add]; exact uc_get _ _ (by omega)) ⟨rfl, rfl⟩) ?_
  repeat (first | refine AL.nil ?_ | refine AL.auto (hn := ?_) | refine AL.gskip rfl rfl rfl rfl rfl ?_ | refine AL.goneSkip rfl rfl rfl rfl rfl ?_ | refine AL.gauto (hn := ?_) | refine AL.oauto (hn := ?_))
  first | refine AL.one rfl rfl ?_ | refine AL.gone rfl rfl rfl rfl rfl ?_
  refine OpW.load (v := .int .u64 (lb N k : Nat)) rfl (Blk.grow hb1 g4) (by rw [Nat.zero_add, uc_get _ _ (by omega)]; simp) ?_
  refine ⟨fun h => h, ?_⟩
  repeat (first | refine AL.nil ?_ | refine AL.auto (hn := ?_) | refine AL.gskip rfl rfl rfl rfl rfl ?_ | refine AL.goneSkip rfl rfl rfl rfl rfl ?_ | refine AL.gauto (hn := ?_) | refine AL.oauto (hn := ?_))
  first | refine AL.one rfl rfl ?_ | refine AL.gone rfl rfl rfl rfl rfl ?_)
    refine OpW.callNow (add35 (lb N k) (lb M k) (car N M k) (car_le N M k) _) rfl ?_
    rw [c1, c2]
    refine ⟨fun h => h, ?_⟩
    repeat (first | refine AL.nil ?_ | refine AL.auto (hn := ?_) | refine AL.gskip rfl rfl rfl rfl rfl ?_ | refine AL.goneSkip rfl rfl rfl rfl rfl ?_ | refine AL.gauto (hn := ?_) | refine AL.oauto (hn := ?_))
    refine AL.take rfl rfl rfl (fun w hg => OpW.idxA k rfl rfl rfl (by omega) ⟨rfl, rfl⟩) ?_
    repeat (first | refine AL.nil ?_ | refine AL.auto (hn := ?_) | refine AL.gskip rfl rfl rfl rfl rfl ?_ | refine AL.goneSkip rfl rfl rfl rfl rfl ?_ | refine AL.gauto (hn := ?_) | refine AL.oauto (hn := ?_))
    refine AL.one0 rfl ?_
    refine OpW.store (v := .int .u64 (lb (N + M) k : Nat)) rfl rfl rfl (hb1.grow g4) (Nat.ble_eq_true_of_le (by rw [uc_size]; omega)) (c' := uc fun j => if j < k + 1 then lb (N + M) j else lb N j) (by
      rw [Nat.zero_add, uc_set _ _ _ (by omega)]
      refine uc_congr fun i _ => ?_
      by_cases h2 : i = k
      · rw [if_pos h2, if_pos (by omega), h2]
      · rw [if_neg h2]
        by_cases h3 : i < k
        · rw [if_pos h3, if_pos (by omega)]
        · rw [if_neg h3, if_neg (by omega)]) ?_
    intro w5 p5 hb5
    refine ⟨fun h => h.andThen p5.chg, ?_⟩
    repeat (first | refine AL.nil ?_ | refine AL.auto (hn := ?_) | refine AL.gskip rfl rfl rfl rfl rfl ?_ | refine AL.goneSkip rfl rfl rfl rfl rfl ?_ | refine AL.gauto (hn := ?_) | refine AL.oauto (hn := ?_))
    repeat (first | refine WL.nil ?_ | refine WL.auto (h := ?_) | refine WL.gskip rfl rfl rfl rfl ?_ | refine WL.gauto (h := ?_) | (refine CW.seq ?_; intro K hK) | refine CW.block ?_ | refine CW.region ?_ | refine CW.skip ?_ | refine CW.exit ?_ | refine CW.ret ?_ | (refine thn_ret (K := K) ?_; clear hK K) | refine thn_ret ?_ | refine blk_ret ?_ | (refine thn_exit (K := K) ?_; clear hK K) | refine thn_exit ?_ | refine blk_here ?_ | refine blk_past rfl ?_ | refine thn_norm ?_ | refine blk_norm ?_ | refine CW.condT rfl ?_ | refine CW.condF rfl ?_ | (refine hK _ _ ?_; clear hK K))
    exact hJ (4 - (k + 1)) _ _ (by omega) ⟨k + 1, by omega, rfl, hb5, (hb2.grow g4).keep p5.chg n21, (hb4.grow g4).keep p5.chg n41, (g3.then g4).chgNew p5.chg (fun i hi e => by omega), rep5 rfl rfl rfl rfl (congrArg (Value.int .i64) (by omega))⟩
  · obtain rfl : k = 4 := by omega
    clear hJ
    have hlast := car_last hN hM
    repeat (first | refine WL.nil ?_ | refine WL.auto (h := ?_) | refine WL.gskip rfl rfl rfl rfl ?_ | refine WL.gauto (h := ?_) | (refine CW.seq ?_; intro K hK) | refine CW.block ?_ | refine CW.region ?_ | refine CW.skip ?_ | refine CW.exit ?_ | refine CW.ret ?_ | (refine thn_ret (K := K) ?_; clear hK K) | refine thn_ret ?_ | refine blk_ret ?_ | (refine thn_exit (K := K) ?_; clear hK K) | refine thn_exit ?_ | refine blk_here ?_ | refine blk_past rfl ?_ | refine thn_norm ?_ | refine blk_norm ?_ | refine CW.condT rfl ?_ | refine CW.condF rfl ?_ | (refine hK _ _ ?_; clear hK K))
    refine CW.condP rfl (fun h2 => ?_) (fun h2 => ?_)
    · have e1 : addN N M = (0, false) := by unfold addN; rw [if_neg (fun h => h2 (by rw [hlast.2 h]; rfl))]
      rw [e1]
      repeat (first | refine WL.nil ?_ | refine WL.auto (h := ?_) | refine WL.gskip rfl rfl rfl rfl ?_ | refine WL.gauto (h := ?_) | (refine CW.seq ?_; intro K hK) | refine CW.block ?_ | refine CW.region ?_ | refine CW.skip ?_ | refine CW.exit ?_ | refine CW.ret ?_ | (refine thn_ret (K := K) ?_; clear hK K) | refine thn_ret ?_ | refine blk_ret ?_ | (refine thn_exit (K := K) ?_; clear hK K) | refine thn_exit ?_ | refine blk_here ?_ | refine blk_past rfl ?_ | refine thn_norm ?_ | refine blk_norm ?_ | refine CW.condT rfl ?_ | refine CW.condF rfl ?_ | (refine hK _ _ ?_; clear hK K))
      first | refine WL.step rfl ?_ | refine WL.gstep rfl rfl rfl rfl ?_
      refine OpW.buildA (cells := uc fun _ => 0) rfl rfl ?_
      repeat (first | refine WL.nil ?_ | refine WL.auto (h := ?_) | refine WL.gskip rfl rfl rfl rfl ?_ | refine WL.gauto (h := ?_) | (refine CW.seq ?_; intro K hK) | refine CW.block ?_ | refine CW.region ?_ | refine CW.skip ?_ | refine CW.exit ?_ | refine CW.ret ?_ | (refine thn_ret (K := K) ?_; clear hK K) | refine thn_ret ?_ | refine blk_ret ?_ | (refine thn_exit (K := K) ?_; clear hK K) | refine thn_exit ?_ | refine blk_here ?_ | refine blk_past rfl ?_ | refine thn_norm ?_ | refine blk_norm ?_ | refine CW.condT rfl ?_ | refine CW.condF rfl ?_ | (refine hK _ _ ?_; clear hK K))
      refine WL.step0 ?_
      refine OpW.storeAll (d := uc fun _ => 0) rfl rfl rfl hb4 rfl rfl (fun w5 p5 hb => ?_)
      repeat (first | refine WL.nil ?_ | refine WL.auto (h := ?_) | refine WL.gskip rfl rfl rfl rfl ?_ | refine WL.gauto (h := ?_) | (refine CW.seq ?_; intro K hK) | refine CW.block ?_ | refine CW.region ?_ | refine CW.skip ?_ | refine CW.exit ?_ | refine CW.ret ?_ | (refine thn_ret (K := K) ?_; clear hK K) | refine thn_ret ?_ | refine blk_ret ?_ | (refine thn_exit (K := K) ?_; clear hK K) | refine thn_exit ?_ | refine blk_here ?_ | refine blk_past rfl ?_ | refine thn_norm ?_ | refine blk_norm ?_ | refine CW.condT rfl ?_ | refine CW.condF rfl ?_ | (refine hK _ _ ?_; clear hK K))
      refine outC2 (v := .bool false) Tryd.results18 rfl hb rfl ⟨?_, g3.chgNew p5.chg (fun i hi e => by omega)⟩ (Or.inr rfl)
      rw [uv_zero]
    · have e1 : addN N M = (N + M, true) := by unfold addN; rw [if_pos (hlast.1 (by omega))]
      rw [e1]
      repeat (first | refine WL.nil ?_ | refine WL.auto (h := ?_) | refine WL.gskip rfl rfl rfl rfl ?_ | refine WL.gauto (h := ?_) | (refine CW.seq ?_; intro K hK) | refine CW.block ?_ | refine CW.region ?_ | refine CW.skip ?_ | refine CW.exit ?_ | refine CW.ret ?_ | (refine thn_ret (K := K) ?_; clear hK K) | refine thn_ret ?_ | refine blk_ret ?_ | (refine thn_exit (K := K) ?_; clear hK K) | refine thn_exit ?_ | refine blk_here ?_ | refine blk_past rfl ?_ | refine thn_norm ?_ | refine blk_norm ?_ | refine CW.condT rfl ?_ | refine CW.condF rfl ?_ | (refine hK _ _ ?_; clear hK K))
      first | refine WL.step rfl ?_ | refine WL.gstep rfl rfl rfl rfl ?_
      refine OpW.loadAgg (uc fun j => if j < 4 then lb (N + M) j else lb N j).toList rfl hb1 rfl rfl ?_
      repeat (first | refine WL.nil ?_ | refine WL.auto (h := ?_) | refine WL.gskip rfl rfl rfl rfl ?_ | refine WL.gauto (h := ?_) | (refine CW.seq ?_; intro K hK) | refine CW.block ?_ | refine CW.region ?_ | refine CW.skip ?_ | refine CW.exit ?_ | refine CW.ret ?_ | (refine thn_ret (K := K) ?_; clear hK K) | refine thn_ret ?_ | refine blk_ret ?_ | (refine thn_exit (K := K) ?_; clear hK K) | refine thn_exit ?_ | refine blk_here ?_ | refine blk_past rfl ?_ | refine thn_norm ?_ | refine blk_norm ?_ | refine CW.condT rfl ?_ | refine CW.condF rfl ?_ | (refine hK _ _ ?_; clear hK K))
      refine WL.step0 ?_
      refine OpW.storeAll (d := uc fun j => if j < 4 then lb (N + M) j else lb N j) rfl rfl rfl hb4 rfl rfl (fun w5 p5 hb => ?_)
      repeat (first | refine WL.nil ?_ | refine WL.auto (h := ?_) | refine WL.gskip rfl rfl rfl rfl ?_ | refine WL.gauto (h := ?_) | (refine CW.seq ?_; intro K hK) | refine CW.block ?_ | refine CW.region ?_ | refine CW.skip ?_ | refine CW.exit ?_ | refine CW.ret ?_ | (refine thn_ret (K := K) ?_; clear hK K) | refine thn_ret ?_ | refine blk_ret ?_ | (refine thn_exit (K := K) ?_; clear hK K) | refine thn_exit ?_ | refine blk_here ?_ | refine blk_past rfl ?_ | refine thn_norm ?_ | refine blk_norm ?_ | refine CW.condT rfl ?_ | refine CW.condF rfl ?_ | (refine hK _ _ ?_; clear hK K))
      refine outC2 (v := .bool true) Tryd.results18 rfl hb rfl ⟨?_, g3.chgNew p5.chg (fun i hi e => by omega)⟩ (Or.inr rfl)
      rw [uv_of (N := N + M) fun i hi => if_pos hi]
      try rw [e1]
end B
end Go.Proofs.YtbcmmamipjbfpaaDoor
