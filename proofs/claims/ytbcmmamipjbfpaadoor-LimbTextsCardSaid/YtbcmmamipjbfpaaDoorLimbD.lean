/- limb.Cmp: of whole numbers below 2^256. -/
import Derived.Test.YtbcmmamipjbfpaaDoorLimbC
import Derived.Test.YtbcmmamipjbfpaaDoorHeld2
namespace Go.Proofs.YtbcmmamipjbfpaaDoor
namespace B
attribute [local irreducible] OpW WL CW Ret Sl Blk thn blk outOf
set_option linter.unusedVariables false
set_option linter.unusedSimpArgs false
set_option maxRecDepth 4000

def cmpN (N M : Nat) : Int := if N < M then -1 else if M < N then 1 else 0
theorem lt_limb {N M : Nat} (hN : N < m256) (hM : M < m256) {k : Nat} (hk : k < 4) (heq : ∀ j, k < j → j < 4 → lb N j = lb M j) (h : lb N k < lb M k) : N < M := by
  have e1 := lb_sum N hN
  have e2 := lb_sum M hM
  have n0 := lb_lt N 0
  have n1 := lb_lt N 1
  have n2 := lb_lt N 2
  have n3 := lb_lt N 3
  have p0 := lb_lt M 0
  have p1 := lb_lt M 1
  have p2 := lb_lt M 2
  have p3 := lb_lt M 3
  unfold m64 at *
  obtain rfl | rfl | rfl | rfl : k = 0 ∨ k = 1 ∨ k = 2 ∨ k = 3 := by omega
  · have q1 := heq 1 (by omega) (by omega)
    have q2 := heq 2 (by omega) (by omega)
    have q3 := heq 3 (by omega) (by omega)
    omega
  · have q2 := heq 2 (by omega) (by omega)
    have q3 := heq 3 (by omega) (by omega)
    omega
  · have q3 := heq 3 (by omega) (by omega)
    omega
  · omega
theorem Cmp11 (N M : Nat) (hN : N < m256) (hM : M < m256) (w : World) : Ret Tryd.prog 11 #[uv N, uv M] w fun v w' => v = .int .i64 (cmpN N M) ∧ Grow w w' := by
  refine Ret.enter (fn := Tryd.f11) (N := 26) Tryd.func11 rfl Tryd.ntmps11 rfl ?_
  repeat (first | refine WL.nil ?_ | refine WL.auto (h := ?_) | refine WL.gskip rfl rfl rfl rfl ?_ | refine WL.gauto (h := ?_) | (refine CW.seq ?_; intro K hK) | refine CW.block ?_ | refine CW.region ?_ | refine CW.skip ?_ | refine CW.exit ?_ | refine CW.ret ?_ | (refine thn_ret (K := K) ?_; clear hK K) | refine thn_ret ?_ | refine blk_ret ?_ | (refine thn_exit (K := K) ?_; clear hK K) | refine thn_exit ?_ | refine blk_here ?_ | refine blk_past rfl ?_ | refine thn_norm ?_ | refine blk_norm ?_ | refine CW.condT rfl ?_ | refine CW.condF rfl ?_ | (refine hK _ _ ?_; clear hK K))
  first | refine WL.step rfl ?_ | refine WL.gstep rfl rfl rfl rfl ?_
  refine OpW.box (v := uv N) rfl ?_
  intro b1 w1 n1
  have hb1 : Blk w1 b1 (uc (lb N)) 24 := n1.blk
  repeat (first | refine WL.nil ?_ | refine WL.auto (h := ?_) | refine WL.gskip rfl rfl rfl rfl ?_ | refine WL.gauto (h := ?_) | (refine CW.seq ?_; intro K hK) | refine CW.block ?_ | refine CW.region ?_ | refine CW.skip ?_ | refine CW.exit ?_ | refine CW.ret ?_ | (refine thn_ret (K := K) ?_; clear hK K) | refine thn_ret ?_ | refine blk_ret ?_ | (refine thn_exit (K := K) ?_; clear hK K) | refine thn_exit ?_ | refine blk_here ?_ | refine blk_past rfl ?_ | refine thn_norm ?_ | refine blk_norm ?_ | refine CW.condT rfl ?_ | refine CW.condF rfl ?_ | (refine hK _ _ ?_; clear hK K))
  first | refine WL.step rfl ?_ | refine WL.gstep rfl rfl rfl rfl ?_
  refine OpW.box (v := uv M) rfl ?_
  intro b2 w2 n2
  have hb2 : Blk w2 b2 (uc (lb M)) 24 := n2.blk
  replace hb1 := hb1.grow n2.grow
  have g2 := n1.grow.then n2.grow
  repeat (first | refine WL.nil ?_ | refine WL.auto (h := ?_) | refine WL.gskip rfl rfl rfl rfl ?_ | refine WL.gauto (h := ?_) | (refine CW.seq ?_; intro K hK) | refine CW.block ?_ | refine CW.region ?_ | refine CW.skip ?_ | refine CW.exit ?_ | refine CW.ret ?_ | (refine thn_ret (K := K) ?_; clear hK K) | refine thn_ret ?_ | refine blk_ret ?_ | (refine thn_exit (K := K) ?_; clear hK K) | refine thn_exit ?_ | refine blk_here ?_ | refine blk_past rfl ?_ | refine thn_norm ?_ | refine blk_norm ?_ | refine CW.condT rfl ?_ | refine CW.condF rfl ?_ | (refine hK _ _ ?_; clear hK K))
  refine CW.loop (fun n' e w3 => ∃ k, k ≤ 4 ∧ n' = k ∧ (∀ j, k ≤ j → j < 4 → lb N j = lb M j) ∧ Grow w2 w3 ∧ ∃ e0, e = upd (upd (upd e0 2 (.pointer (some ⟨b1, 0, none⟩))) 3 (.pointer (some ⟨b2, 0, none⟩))) 5 (.int .i64 ((k : Int) - 1))) 4 ?_ ?_
  · exact ⟨4, by omega, rfl, fun j h1 h2 => by omega, Chg.refl _ _, rep3 rfl rfl rfl⟩
  rintro k e w3 ⟨_, hk, rfl, heq, g3, e0, rfl⟩ KJ hJ
  repeat (first | refine WL.nil ?_ | refine WL.auto (h := ?_) | refine WL.gskip rfl rfl rfl rfl ?_ | refine WL.gauto (h := ?_) | (refine CW.seq ?_; intro K hK) | refine CW.block ?_ | refine CW.region ?_ | refine CW.skip ?_ | refine CW.exit ?_ | refine CW.ret ?_ | (refine thn_ret (K := K) ?_; clear hK K) | refine thn_ret ?_ | refine blk_ret ?_ | (refine thn_exit (K := K) ?_; clear hK K) | refine thn_exit ?_ | refine blk_here ?_ | refine blk_past rfl ?_ | refine thn_norm ?_ | refine blk_norm ?_ | refine CW.condT rfl ?_ | refine CW.condF rfl ?_ | (refine hK _ _ ?_; clear hK K))
  refine CW.condP rfl (fun h1 => ?_) (fun h1 => ?_)
  · obtain ⟨i, rfl⟩ : ∃ i, k = i + 1 := ⟨k - 1, by omega⟩
    have hc1 := hb1.grow g3
    have hc2 := hb2.grow g3
    repeat (first | refine WL.nil ?_ | refine WL.auto (h := ?_) | refine WL.gskip rfl rfl rfl rfl ?_ | refine WL.gauto (h := ?_) | (refine CW.seq ?_; intro K hK) | refine CW.block ?_ | refine CW.region ?_ | refine CW.skip ?_ | refine CW.exit ?_ | refine CW.ret ?_ | (refine thn_ret (K := K) ?_; clear hK K) | refine thn_ret ?_ | refine blk_ret ?_ | (refine thn_exit (K := K) ?_; clear hK K) | refine thn_exit ?_ | refine blk_here ?_ | refine blk_past rfl ?_ | refine thn_norm ?_ | refine blk_norm ?_ | refine CW.condT rfl ?_ | refine CW.condF rfl ?_ | (refine hK _ _ ?_; clear hK K))
    refine CW.held (fun _ => False) (.take 0 (.take 1 (.take 2 (.take 3 (.take 4 (.take 5 (.take 6 (.one 7 .nil)))))))) rfl (by kernel_rfl) (by kernel_rfl) (fun w4 g4 => ?_)
    (
  repeat (first | refine AL.nil ?_ | refine AL.auto (hn := ?_) | refine AL.gskip rfl rfl rfl rfl rfl ?_ | refine AL.goneSkip rfl rfl rfl rfl rfl ?_ | refine AL.gauto (hn := ?_) | refine AL.oauto (hn := ?_))
  refine AL.take rfl rfl rfl (fun w hg => OpW.idxA i rfl rfl (by omega) (by omega) ⟨rfl, rfl⟩) ?_
  refine AL.take rfl rfl rfl (fun w hg => OpW.load (v := .int .u64 (lb N i : Nat)) rfl (Blk.grow hc1 hg) (by rw [Nat.zero_add]; exact uc_get _ _ (by omega)) ⟨rfl, rfl⟩) ?_
  repeat (first | refine AL.nil ?_ | refine AL.auto (hn := ?_) | refine AL.gskip rfl rfl rfl rfl rfl ?_ | refine AL.goneSkip rfl rfl rfl rfl rfl ?_ | refine AL.gauto (hn := ?_) | refine AL.oauto (hn := ?_))
  refine AL.take rfl rfl rfl (fun w hg => OpW.idxA i rfl rfl (by omega) (by omega) ⟨rfl, rfl⟩) ?_
  refine AL.take rfl rfl rfl (fun w hg => OpW.load (v := .int .u64 (lb M i : Nat)) rfl (Blk.grow hc2 hg) (by rw [Nat.zero_add]; exact uc_get _ _ (by omega)) ⟨rfl, rfl⟩) ?_
  repeat (first | refine AL.nil ?_ | refine AL.auto (hn := ?_) | refine AL.gskip rfl rfl rfl rfl rfl ?_ | refine AL.goneSkip rfl rfl rfl rfl rfl ?_ | refine AL.gauto (hn := ?_) | refine AL.oauto (hn := ?_)))
    repeat (first | refine WL.nil ?_ | refine WL.auto (h := ?_) | refine WL.gskip rfl rfl rfl rfl ?_ | refine WL.gauto (h := ?_) | (refine CW.seq ?_; intro K hK) | refine CW.block ?_ | refine CW.region ?_ | refine CW.skip ?_ | refine CW.exit ?_ | refine CW.ret ?_ | (refine thn_ret (K := K) ?_; clear hK K) | refine thn_ret ?_ | refine blk_ret ?_ | (refine thn_exit (K := K) ?_; clear hK K) | refine thn_exit ?_ | refine blk_here ?_ | refine blk_past rfl ?_ | refine thn_norm ?_ | refine blk_norm ?_ | refine CW.condT rfl ?_ | refine CW.condF rfl ?_ | (refine hK _ _ ?_; clear hK K))
    refine CW.condP rfl (fun h2 => ?_) (fun h2 => ?_)
    · repeat (first | refine WL.nil ?_ | refine WL.auto (h := ?_) | refine WL.gskip rfl rfl rfl rfl ?_ | refine WL.gauto (h := ?_) | (refine CW.seq ?_; intro K hK) | refine CW.block ?_ | refine CW.region ?_ | refine CW.skip ?_ | refine CW.exit ?_ | refine CW.ret ?_ | (refine thn_ret (K := K) ?_; clear hK K) | refine thn_ret ?_ | refine blk_ret ?_ | (refine thn_exit (K := K) ?_; clear hK K) | refine thn_exit ?_ | refine blk_here ?_ | refine blk_past rfl ?_ | refine thn_norm ?_ | refine blk_norm ?_ | refine CW.condT rfl ?_ | refine CW.condF rfl ?_ | (refine hK _ _ ?_; clear hK K))
      refine out1 (v := .int .i64 (-1)) Tryd.results11 rfl ⟨?_, g2.then (g3.then g4)⟩ (Or.inr rfl)
      rw [cmpN, if_pos (lt_limb hN hM (k := i) (by omega) (fun j h3 h4 => heq j (by omega) h4) (by omega))]
    replace hc1 := hc1.grow g4
    replace hc2 := hc2.grow g4
    repeat (first | refine WL.nil ?_ | refine WL.auto (h := ?_) | refine WL.gskip rfl rfl rfl rfl ?_ | refine WL.gauto (h := ?_) | (refine CW.seq ?_; intro K hK) | refine CW.block ?_ | refine CW.region ?_ | refine CW.skip ?_ | refine CW.exit ?_ | refine CW.ret ?_ | (refine thn_ret (K := K) ?_; clear hK K) | refine thn_ret ?_ | refine blk_ret ?_ | (refine thn_exit (K := K) ?_; clear hK K) | refine thn_exit ?_ | refine blk_here ?_ | refine blk_past rfl ?_ | refine thn_norm ?_ | refine blk_norm ?_ | refine CW.condT rfl ?_ | refine CW.condF rfl ?_ | (refine hK _ _ ?_; clear hK K))
    refine CW.held (fun _ => False) (.take 0 (.take 1 (.take 2 (.take 3 (.take 4 (.take 5 (.take 6 (.one 7 .nil)))))))) rfl (by kernel_rfl) (by kernel_rfl) (fun w5 g5 => ?_)
    (
  repeat (first | refine AL.nil ?_ | refine AL.auto (hn := ?_) | refine AL.gskip rfl rfl rfl rfl rfl ?_ | refine AL.goneSkip rfl rfl rfl rfl rfl ?_ | refine AL.gauto (hn := ?_) | refine AL.oauto (hn := ?_))
  refine AL.take rfl rfl rfl (fun w hg => OpW.idxA i rfl rfl (by omega) (by omega) ⟨rfl, rfl⟩) ?_
  refine AL.take rfl rfl rfl (fun w hg => OpW.load (v := .int .u64 (lb N i : Nat)) rfl (Blk.grow hc1 hg) (by rw [Nat.zero_add]; exact uc_get _ _ (by omega)) ⟨rfl, rfl⟩) ?_
  repeat (first | refine AL.nil ?_ | refine AL.auto (hn := ?_) | refine AL.gskip rfl rfl rfl rfl rfl ?_ | refine AL.goneSkip rfl rfl rfl rfl rfl ?_ | refine AL.gauto (hn := ?_) | refine AL.oauto (hn := ?_))
  refine AL.take rfl rfl rfl (fun w hg => OpW.idxA i rfl rfl (by omega) (by omega) ⟨rfl, rfl⟩) ?_
  refine AL.take rfl rfl rfl (fun w hg => OpW.load (v := .int .u64 (lb M i : Nat)) rfl (Blk.grow hc2 hg) (by rw [Nat.zero_add]; exact uc_get _ _ (by omega)) ⟨rfl, rfl⟩) ?_
  repeat (first | refine AL.nil ?_ | refine AL.auto (hn := ?_) | refine AL.gskip rfl rfl rfl rfl rfl ?_ | refine AL.goneSkip rfl rfl rfl rfl rfl ?_ | refine AL.gauto (hn := ?_) | refine AL.oauto (hn := ?_)))
    repeat (first | refine WL.nil ?_ | refine WL.auto (h := ?_) | refine WL.gskip rfl rfl rfl rfl ?_ | refine WL.gauto (h := ?_) | (refine CW.seq ?_; intro K hK) | refine CW.block ?_ | refine CW.region ?_ | refine CW.skip ?_ | refine CW.exit ?_ | refine CW.ret ?_ | (refine thn_ret (K := K) ?_; clear hK K) | refine thn_ret ?_ | refine blk_ret ?_ | (refine thn_exit (K := K) ?_; clear hK K) | refine thn_exit ?_ | refine blk_here ?_ | refine blk_past rfl ?_ | refine thn_norm ?_ | refine blk_norm ?_ | refine CW.condT rfl ?_ | refine CW.condF rfl ?_ | (refine hK _ _ ?_; clear hK K))
    refine CW.condP rfl (fun h3 => ?_) (fun h3 => ?_)
    · have hlt := lt_limb hM hN (k := i) (by omega) (fun j h3 h4 => (heq j (by omega) h4).symm) (by omega)
      repeat (first | refine WL.nil ?_ | refine WL.auto (h := ?_) | refine WL.gskip rfl rfl rfl rfl ?_ | refine WL.gauto (h := ?_) | (refine CW.seq ?_; intro K hK) | refine CW.block ?_ | refine CW.region ?_ | refine CW.skip ?_ | refine CW.exit ?_ | refine CW.ret ?_ | (refine thn_ret (K := K) ?_; clear hK K) | refine thn_ret ?_ | refine blk_ret ?_ | (refine thn_exit (K := K) ?_; clear hK K) | refine thn_exit ?_ | refine blk_here ?_ | refine blk_past rfl ?_ | refine thn_norm ?_ | refine blk_norm ?_ | refine CW.condT rfl ?_ | refine CW.condF rfl ?_ | (refine hK _ _ ?_; clear hK K))
      refine out1 (v := .int .i64 1) Tryd.results11 rfl ⟨?_, g2.then (g3.then (g4.then g5))⟩ (Or.inr rfl)
      rw [cmpN, if_neg (by omega), if_pos hlt]
    · repeat (first | refine WL.nil ?_ | refine WL.auto (h := ?_) | refine WL.gskip rfl rfl rfl rfl ?_ | refine WL.gauto (h := ?_) | (refine CW.seq ?_; intro K hK) | refine CW.block ?_ | refine CW.region ?_ | refine CW.skip ?_ | refine CW.exit ?_ | refine CW.ret ?_ | (refine thn_ret (K := K) ?_; clear hK K) | refine thn_ret ?_ | refine blk_ret ?_ | (refine thn_exit (K := K) ?_; clear hK K) | refine thn_exit ?_ | refine blk_here ?_ | refine blk_past rfl ?_ | refine thn_norm ?_ | refine blk_norm ?_ | refine CW.condT rfl ?_ | refine CW.condF rfl ?_ | (refine hK _ _ ?_; clear hK K))
      exact hJ i _ _ (by omega) ⟨i, by omega, rfl, fun j h4 h5 => by
        by_cases hj : j = i
        · subst hj; omega
        · exact heq j (by omega) h5, g3.then (g4.then g5), rep3 rfl rfl (congrArg (Value.int .i64) (by omega))⟩
  · obtain rfl : k = 0 := by omega
    have e : N = M := (lb_inj hN hM).1 ⟨heq 0 (by omega) (by omega), heq 1 (by omega) (by omega), heq 2 (by omega) (by omega), heq 3 (by omega) (by omega)⟩
    repeat (first | refine WL.nil ?_ | refine WL.auto (h := ?_) | refine WL.gskip rfl rfl rfl rfl ?_ | refine WL.gauto (h := ?_) | (refine CW.seq ?_; intro K hK) | refine CW.block ?_ | refine CW.region ?_ | refine CW.skip ?_ | refine CW.exit ?_ | refine CW.ret ?_ | (refine thn_ret (K := K) ?_; clear hK K) | refine thn_ret ?_ | refine blk_ret ?_ | (refine thn_exit (K := K) ?_; clear hK K) | refine thn_exit ?_ | refine blk_here ?_ | refine blk_past rfl ?_ | refine thn_norm ?_ | refine blk_norm ?_ | refine CW.condT rfl ?_ | refine CW.condF rfl ?_ | (refine hK _ _ ?_; clear hK K))
    refine out1 (v := .int .i64 0) Tryd.results11 rfl ⟨?_, g2.then g3⟩ (Or.inr rfl)
    rw [cmpN, if_neg (by omega), if_neg (by omega)]
end B
end Go.Proofs.YtbcmmamipjbfpaaDoor
