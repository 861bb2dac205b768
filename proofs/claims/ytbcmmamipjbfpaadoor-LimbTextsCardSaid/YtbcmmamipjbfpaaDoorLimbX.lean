/- The document's Cmp, Add, Sub: byte by byte. Conditions: below 2^256. -/
import Derived.Test.YtbcmmamipjbfpaaDoorLimbT
import Derived.Test.YtbcmmamipjbfpaaDoorLimbF
namespace Go.Proofs.YtbcmmamipjbfpaaDoor
namespace B
set_option linter.unusedVariables false
set_option linter.unusedSimpArgs false
set_option maxRecDepth 4000

theorem div_lo (N k : Nat) : N / 256 ^ k = 256 * (N / 256 ^ (k + 1)) + lo N k := by
  unfold lo
  rw [Nat.pow_succ, ← Nat.div_div_eq_div_mul]
  omega
theorem div32 {N : Nat} (h : N < m256) : N / 256 ^ 32 = 0 := Nat.div_eq_of_lt (by rw [← m256_pow]; exact h)
theorem lt_lo {N M k : Nat} (h1 : N / 256 ^ (k + 1) = M / 256 ^ (k + 1)) (h2 : lo N k < lo M k) : N < M := by
  have e1 := div_lo N k
  have e2 := div_lo M k
  rcases Nat.lt_or_ge N M with h | h
  · exact h
  · have := Nat.div_le_div_right (c := 256 ^ k) h
    omega
theorem pos256 (k : Nat) : 0 < 256 ^ k := Nat.pow_pos (by decide)
/-- What is carried over the lowest k bytes. -/
def car8 (N M k : Nat) : Nat := (N % 256 ^ k + M % 256 ^ k) / 256 ^ k
theorem mod_lo (N k : Nat) : N % 256 ^ (k + 1) = N % 256 ^ k + 256 ^ k * lo N k := by
  unfold lo
  rw [Nat.pow_succ, Nat.mod_mul]
theorem car8_le (N M k : Nat) : car8 N M k ≤ 1 := by
  unfold car8
  have h := pos256 k
  have h1 := Nat.mod_lt N h
  have h2 := Nat.mod_lt M h
  have : (N % 256 ^ k + M % 256 ^ k) / 256 ^ k < 2 := by
    rw [Nat.div_lt_iff_lt_mul h]
    omega
  omega
theorem car8_next (N M k : Nat) : (lo N k + lo M k + car8 N M k) / 256 = car8 N M (k + 1) ∧ (lo N k + lo M k + car8 N M k) % 256 = lo (N + M) k := by
  have h := pos256 k
  constructor
  · unfold car8
    rw [mod_lo, mod_lo]
    have e : N % 256 ^ k + 256 ^ k * lo N k + (M % 256 ^ k + 256 ^ k * lo M k) = (N % 256 ^ k + M % 256 ^ k) + 256 ^ k * (lo N k + lo M k) := by
      rw [Nat.mul_add]; omega
    rw [e, Nat.pow_succ, ← Nat.div_div_eq_div_mul, Nat.add_mul_div_left _ _ h, Nat.add_comm (lo N k + lo M k)]
  · have e : N + M = (N % 256 ^ k + M % 256 ^ k) + 256 ^ k * (N / 256 ^ k + M / 256 ^ k) := by
      have h1 := Nat.mod_add_div N (256 ^ k)
      have h2 := Nat.mod_add_div M (256 ^ k)
      rw [Nat.mul_add]
      omega
    have e3 : (N + M) / 256 ^ k = car8 N M k + (N / 256 ^ k + M / 256 ^ k) := by
      rw [e, Nat.add_mul_div_left _ _ h]
      rfl
    have e2 : lo (N + M) k = (car8 N M k + (N / 256 ^ k + M / 256 ^ k)) % 256 := by
      unfold lo
      rw [e3]
    rw [e2]
    unfold lo
    generalize N / 256 ^ k = x
    generalize M / 256 ^ k = y
    generalize car8 N M k = c
    omega
theorem car8_last {N M : Nat} (hN : N < m256) (hM : M < m256) : car8 N M 32 = 0 ↔ N + M < m256 := by
  unfold car8
  rw [← m256_pow, Nat.mod_eq_of_lt hN, Nat.mod_eq_of_lt hM, Nat.div_eq_zero_iff]
  constructor
  · rintro (h | h)
    · exact absurd h (by decide)
    · exact h
  · exact Or.inr
/-- What is borrowed over the lowest k bytes. -/
def bor8 (N M k : Nat) : Nat := if N % 256 ^ k < M % 256 ^ k then 1 else 0
theorem bor8_le (N M k : Nat) : bor8 N M k ≤ 1 := by unfold bor8; split <;> omega
theorem bor8_next {N M : Nat} (h : M ≤ N) (k : Nat) : (if lo N k < lo M k + bor8 N M k then 1 else 0) = bor8 N M (k + 1) ∧ (lo N k + 256 - lo M k - bor8 N M k) % 256 = lo (N - M) k := by
  have hB := pos256 k
  have hr := Nat.mod_lt N hB
  have hs := Nat.mod_lt M hB
  constructor
  · have e1 : bor8 N M (k + 1) = if N % 256 ^ k + 256 ^ k * lo N k < M % 256 ^ k + 256 ^ k * lo M k then 1 else 0 := by unfold bor8; rw [mod_lo, mod_lo]
    rw [e1]
    unfold bor8
    generalize N % 256 ^ k = r at *
    generalize M % 256 ^ k = s at *
    generalize lo N k = x
    generalize lo M k = y
    generalize 256 ^ k = B at *
    rcases Nat.lt_trichotomy x y with h | h | h
    · have h1 : B * (x + 1) ≤ B * y := Nat.mul_le_mul_left _ h
      rw [Nat.mul_add, Nat.mul_one] at h1
      rw [if_pos (by omega), if_pos (by omega)]
    · subst h
      by_cases h2 : r < s
      · rw [if_pos h2, if_pos (by omega), if_pos (by omega)]
      · rw [if_neg h2, if_neg (by omega), if_neg (by omega)]
    · have h1 : B * (y + 1) ≤ B * x := Nat.mul_le_mul_left _ h
      rw [Nat.mul_add, Nat.mul_one] at h1
      rw [if_neg (by split <;> omega), if_neg (by omega)]
  · have eN := Nat.mod_add_div N (256 ^ k)
    have eM := Nat.mod_add_div M (256 ^ k)
    have hle : M / 256 ^ k ≤ N / 256 ^ k := Nat.div_le_div_right h
    have e3 : M / 256 ^ k + bor8 N M k ≤ N / 256 ^ k ∧ (N - M) / 256 ^ k = N / 256 ^ k - M / 256 ^ k - bor8 N M k := by
      unfold bor8
      generalize N % 256 ^ k = r at *
      generalize M % 256 ^ k = s at *
      generalize N / 256 ^ k = n at *
      generalize M / 256 ^ k = m at *
      generalize 256 ^ k = B at *
      obtain ⟨d, rfl⟩ : ∃ d, n = m + d := ⟨n - m, by omega⟩
      rw [Nat.mul_add] at eN
      by_cases h1 : r < s
      · rw [if_pos h1]
        have hd : 0 < d := by
          rcases Nat.eq_zero_or_pos d with h0 | h0
          · rw [h0, Nat.mul_zero] at eN; omega
          · exact h0
        obtain ⟨d, rfl⟩ : ∃ d', d = d' + 1 := ⟨d - 1, by omega⟩
        rw [Nat.mul_add, Nat.mul_one] at eN
        refine ⟨by omega, ?_⟩
        rw [show N - M = (r + B - s) + B * d from by omega, Nat.add_mul_div_left _ _ hB, Nat.div_eq_of_lt (by omega)]
        omega
      · rw [if_neg h1]
        refine ⟨by omega, ?_⟩
        rw [show N - M = (r - s) + B * d from by omega, Nat.add_mul_div_left _ _ hB, Nat.div_eq_of_lt (by omega)]
        omega
    obtain ⟨e4, e5⟩ := e3
    unfold lo
    rw [e5]
    generalize N / 256 ^ k = n at *
    generalize M / 256 ^ k = m at *
    have hb := bor8_le N M k
    generalize bor8 N M k = b at *
    omega
attribute [local irreducible] OpW WL CW Ret Sl Blk thn blk outOf
set_option linter.unusedVariables false
set_option linter.unusedSimpArgs false
set_option maxHeartbeats 1000000 in
theorem Cmp22 (N M : Nat) (hN : N < m256) (hM : M < m256) (w : World) : Ret Tryd.prog 22 #[uv N, uv M] w fun v w' => v = .int .i64 (cmpN N M) ∧ Grow w w' := by
  refine Ret.enter (fn := Tryd.f22) (N := 34) Tryd.func22 rfl Tryd.ntmps22 rfl ?_
  repeat (first | refine WL.nil ?_ | refine WL.auto (h := ?_) | refine WL.gskip rfl rfl rfl rfl ?_ | refine WL.gauto (h := ?_) | (refine CW.seq ?_; intro K hK) | refine CW.block ?_ | refine CW.region ?_ | refine CW.skip ?_ | refine CW.exit ?_ | refine CW.ret ?_ | (refine thn_ret (K := K) ?_; clear hK K) | refine thn_ret ?_ | refine blk_ret ?_ | (refine thn_exit (K := K) ?_; clear hK K) | refine thn_exit ?_ | refine blk_here ?_ | refine blk_past rfl ?_ | refine thn_norm ?_ | refine blk_norm ?_ | refine CW.condT rfl ?_ | refine CW.condF rfl ?_ | (refine hK _ _ ?_; clear hK K))
  first | refine WL.step rfl ?_ | refine WL.gstep rfl rfl rfl rfl ?_
  refine OpW.box (v := uv N) rfl ?_
  intro b1 w1 n1
  have hb1 : Blk w1 b1 (uc (lb N)) 24 := n1.blk
  repeat (first | refine WL.nil ?_ | refine WL.auto (h := ?_) | refine WL.gskip rfl rfl rfl rfl ?_ | refine WL.gauto (h := ?_) | (refine CW.seq ?_; intro K hK) | refine CW.block ?_ | refine CW.region ?_ | refine CW.skip ?_ | refine CW.exit ?_ | refine CW.ret ?_ | (refine thn_ret (K := K) ?_; clear hK K) | refine thn_ret ?_ | refine blk_ret ?_ | (refine thn_exit (K := K) ?_; clear hK K) | refine thn_exit ?_ | refine blk_here ?_ | refine blk_past rfl ?_ | refine thn_norm ?_ | refine blk_norm ?_ | refine CW.condT rfl ?_ | refine CW.condF rfl ?_ | (refine hK _ _ ?_; clear hK K))
  first | refine WL.step rfl ?_ | refine WL.gstep rfl rfl rfl rfl ?_
  refine OpW.box (v := uv M) rfl ?_
  intro b2 w2 n2
  have hb2 : Blk w2 b2 (uc (lb M)) 24 := n2.blk
  replace hb1 := hb1.grow n2.grow
  have g2 := n1.grow.then n2.grow
  clear n1 n2
  repeat (first | refine WL.nil ?_ | refine WL.auto (h := ?_) | refine WL.gskip rfl rfl rfl rfl ?_ | refine WL.gauto (h := ?_) | (refine CW.seq ?_; intro K hK) | refine CW.block ?_ | refine CW.region ?_ | refine CW.skip ?_ | refine CW.exit ?_ | refine CW.ret ?_ | (refine thn_ret (K := K) ?_; clear hK K) | refine thn_ret ?_ | refine blk_ret ?_ | (refine thn_exit (K := K) ?_; clear hK K) | refine thn_exit ?_ | refine blk_here ?_ | refine blk_past rfl ?_ | refine thn_norm ?_ | refine blk_norm ?_ | refine CW.condT rfl ?_ | refine CW.condF rfl ?_ | (refine hK _ _ ?_; clear hK K))
  refine CW.held (fun _ => False) (.take 0 (.take 2 (.one 1 (.one 3 (.one 4 (.one 5 .nil)))))) rfl (by kernel_rfl) (by kernel_rfl) (fun w3 g3 => ?_)
  repeat (first | refine AL.nil ?_ | refine AL.auto (hn := ?_) | refine AL.gskip rfl rfl rfl rfl rfl ?_ | refine AL.goneSkip rfl rfl rfl rfl rfl ?_ | refine AL.gauto (hn := ?_) | refine AL.oauto (hn := ?_))
  refine AL.take rfl rfl rfl (fun w hg => OpW.loadAgg (uc (lb N)).toList rfl (Blk.keep hb1 hg (fun h => h)) rfl rfl ⟨rfl, rfl⟩) ?_
  refine AL.take rfl rfl rfl (fun w hg => OpW.loadAgg (uc (lb M)).toList rfl (Blk.keep hb2 hg (fun h => h)) rfl rfl ⟨rfl, rfl⟩) ?_
  first | refine AL.one rfl rfl ?_ | refine AL.gone rfl rfl rfl rfl rfl ?_
  refine OpW.call ((long34 N hN w3).mono ?_) rfl
  rintro v w4 ⟨X, cx, rfl, ox, g4⟩
  refine ⟨fun h => h.grow g4, ?_⟩
  repeat (first | refine AL.nil ?_ | refine AL.auto (hn := ?_) | refine AL.gskip rfl rfl rfl rfl rfl ?_ | refine AL.goneSkip rfl rfl rfl rfl rfl ?_ | refine AL.gauto (hn := ?_) | refine AL.oauto (hn := ?_))
  first | refine AL.one rfl rfl ?_ | refine AL.gone rfl rfl rfl rfl rfl ?_
  refine OpW.call ((long34 M hM w4).mono ?_) rfl
  rintro v w5 ⟨Y, cy, rfl, oy, g5⟩
  refine ⟨fun h => h.grow g5, ?_⟩
  replace ox := ox.grow g5
  have G := ((g2.then g3).then g4).then g5
  clear hb1 hb2 g2 g3 g4 g5
  repeat (first | refine AL.nil ?_ | refine AL.auto (hn := ?_) | refine AL.gskip rfl rfl rfl rfl rfl ?_ | refine AL.goneSkip rfl rfl rfl rfl rfl ?_ | refine AL.gauto (hn := ?_) | refine AL.oauto (hn := ?_))
  have hX : X ≠ none := sl_ne ox.sl (i := 0) (by rw [li_length]; decide)
  have hXs := spot_own ox
  have hY : Y ≠ none := sl_ne oy.sl (i := 0) (by rw [li_length]; decide)
  have hYs := spot_own oy
  repeat (first | refine WL.nil ?_ | refine WL.auto (h := ?_) | refine WL.gskip rfl rfl rfl rfl ?_ | refine WL.gauto (h := ?_) | (refine CW.seq ?_; intro K hK) | refine CW.block ?_ | refine CW.region ?_ | refine CW.skip ?_ | refine CW.exit ?_ | refine CW.ret ?_ | (refine thn_ret (K := K) ?_; clear hK K) | refine thn_ret ?_ | refine blk_ret ?_ | (refine thn_exit (K := K) ?_; clear hK K) | refine thn_exit ?_ | refine blk_here ?_ | refine blk_past rfl ?_ | refine thn_norm ?_ | refine blk_norm ?_ | refine CW.condT rfl ?_ | refine CW.condF rfl ?_ | (refine hK _ _ ?_; clear hK K))
  refine CW.loop (fun n' e w6 => ∃ k, k ≤ 32 ∧ n' = k ∧ N / 256 ^ k = M / 256 ^ k ∧ Grow w5 w6 ∧ ∃ e0, e = upd (upd (upd e0 5 (.slice X 32 cx)) 6 (.slice Y 32 cy)) 7 (.int .i64 ((k : Int) - 1))) 32 ?_ ?_
  · exact ⟨32, by omega, rfl, by rw [div32 hN, div32 hM], Chg.refl _ _, rep3 rfl rfl rfl⟩
  rintro k e w6 ⟨_, hk, rfl, heq, g6, e0, rfl⟩ KJ hJ
  repeat (first | refine WL.nil ?_ | refine WL.auto (h := ?_) | refine WL.gskip rfl rfl rfl rfl ?_ | refine WL.gauto (h := ?_) | (refine CW.seq ?_; intro K hK) | refine CW.block ?_ | refine CW.region ?_ | refine CW.skip ?_ | refine CW.exit ?_ | refine CW.ret ?_ | (refine thn_ret (K := K) ?_; clear hK K) | refine thn_ret ?_ | refine blk_ret ?_ | (refine thn_exit (K := K) ?_; clear hK K) | refine thn_exit ?_ | refine blk_here ?_ | refine blk_past rfl ?_ | refine thn_norm ?_ | refine blk_norm ?_ | refine CW.condT rfl ?_ | refine CW.condF rfl ?_ | (refine hK _ _ ?_; clear hK K))
  refine CW.condP rfl (fun h1 => ?_) (fun h1 => ?_)
  · obtain ⟨i, rfl⟩ : ∃ i, k = i + 1 := ⟨k - 1, by omega⟩
    have hil : i < 32 := by omega
    have hii : ((i + 1 : Nat) : Int) - 1 = (i : Int) := by omega
    rw [hii]
    repeat (first | refine WL.nil ?_ | refine WL.auto (h := ?_) | refine WL.gskip rfl rfl rfl rfl ?_ | refine WL.gauto (h := ?_) | (refine CW.seq ?_; intro K hK) | refine CW.block ?_ | refine CW.region ?_ | refine CW.skip ?_ | refine CW.exit ?_ | refine CW.ret ?_ | (refine thn_ret (K := K) ?_; clear hK K) | refine thn_ret ?_ | refine blk_ret ?_ | (refine thn_exit (K := K) ?_; clear hK K) | refine thn_exit ?_ | refine blk_here ?_ | refine blk_past rfl ?_ | refine thn_norm ?_ | refine blk_norm ?_ | refine CW.condT rfl ?_ | refine CW.condF rfl ?_ | (refine hK _ _ ?_; clear hK K))
    refine CW.held (fun _ => False) (.take 0 (.take 1 (.take 2 (.take 3 (.take 4 (.take 5 (.take 6 (.take 7 (.take 8 .nil))))))))) rfl (by kernel_rfl) (by kernel_rfl) (fun w7 g7 => ?_)
    repeat (first | refine AL.nil ?_ | refine AL.auto (hn := ?_) | refine AL.gskip rfl rfl rfl rfl rfl ?_ | refine AL.goneSkip rfl rfl rfl rfl rfl ?_ | refine AL.gauto (hn := ?_) | refine AL.oauto (hn := ?_))
    refine AL.take rfl rfl rfl (fun w hg => OpW.indexAddr i rfl rfl rfl hil hX hXs ⟨rfl, rfl⟩) ?_
    repeat (first | refine AL.nil ?_ | refine AL.auto (hn := ?_) | refine AL.gskip rfl rfl rfl rfl rfl ?_ | refine AL.goneSkip rfl rfl rfl rfl rfl ?_ | refine AL.gauto (hn := ?_) | refine AL.oauto (hn := ?_))
    refine AL.take rfl rfl rfl (fun w hg => OpW.loadS (v := .int .i64 (lo N i : Nat)) rfl ((ox.sl.grow g6).grow hg) (by rw [Nat.mul_one]; exact li_get _ _ _ hil) ⟨rfl, rfl⟩) ?_
    repeat (first | refine AL.nil ?_ | refine AL.auto (hn := ?_) | refine AL.gskip rfl rfl rfl rfl rfl ?_ | refine AL.goneSkip rfl rfl rfl rfl rfl ?_ | refine AL.gauto (hn := ?_) | refine AL.oauto (hn := ?_))
    refine AL.take rfl rfl rfl (fun w hg => OpW.indexAddr i rfl rfl rfl hil hY hYs ⟨rfl, rfl⟩) ?_
    repeat (first | refine AL.nil ?_ | refine AL.auto (hn := ?_) | refine AL.gskip rfl rfl rfl rfl rfl ?_ | refine AL.goneSkip rfl rfl rfl rfl rfl ?_ | refine AL.gauto (hn := ?_) | refine AL.oauto (hn := ?_))
    refine AL.take rfl rfl rfl (fun w hg => OpW.loadS (v := .int .i64 (lo M i : Nat)) rfl ((oy.sl.grow g6).grow hg) (by rw [Nat.mul_one]; exact li_get _ _ _ hil) ⟨rfl, rfl⟩) ?_
    repeat (first | refine AL.nil ?_ | refine AL.auto (hn := ?_) | refine AL.gskip rfl rfl rfl rfl rfl ?_ | refine AL.goneSkip rfl rfl rfl rfl rfl ?_ | refine AL.gauto (hn := ?_) | refine AL.oauto (hn := ?_))
    repeat (first | refine WL.nil ?_ | refine WL.auto (h := ?_) | refine WL.gskip rfl rfl rfl rfl ?_ | refine WL.gauto (h := ?_) | (refine CW.seq ?_; intro K hK) | refine CW.block ?_ | refine CW.region ?_ | refine CW.skip ?_ | refine CW.exit ?_ | refine CW.ret ?_ | (refine thn_ret (K := K) ?_; clear hK K) | refine thn_ret ?_ | refine blk_ret ?_ | (refine thn_exit (K := K) ?_; clear hK K) | refine thn_exit ?_ | refine blk_here ?_ | refine blk_past rfl ?_ | refine thn_norm ?_ | refine blk_norm ?_ | refine CW.condT rfl ?_ | refine CW.condF rfl ?_ | (refine hK _ _ ?_; clear hK K))
    refine CW.condP rfl (fun h2 => ?_) (fun h2 => ?_)
    · repeat (first | refine WL.nil ?_ | refine WL.auto (h := ?_) | refine WL.gskip rfl rfl rfl rfl ?_ | refine WL.gauto (h := ?_) | (refine CW.seq ?_; intro K hK) | refine CW.block ?_ | refine CW.region ?_ | refine CW.skip ?_ | refine CW.exit ?_ | refine CW.ret ?_ | (refine thn_ret (K := K) ?_; clear hK K) | refine thn_ret ?_ | refine blk_ret ?_ | (refine thn_exit (K := K) ?_; clear hK K) | refine thn_exit ?_ | refine blk_here ?_ | refine blk_past rfl ?_ | refine thn_norm ?_ | refine blk_norm ?_ | refine CW.condT rfl ?_ | refine CW.condF rfl ?_ | (refine hK _ _ ?_; clear hK K))
      refine out1 (v := .int .i64 (-1)) Tryd.results22 rfl ⟨?_, G.then (g6.then g7)⟩ (Or.inr rfl)
      rw [cmpN, if_pos (lt_lo heq (by omega))]
    repeat (first | refine WL.nil ?_ | refine WL.auto (h := ?_) | refine WL.gskip rfl rfl rfl rfl ?_ | refine WL.gauto (h := ?_) | (refine CW.seq ?_; intro K hK) | refine CW.block ?_ | refine CW.region ?_ | refine CW.skip ?_ | refine CW.exit ?_ | refine CW.ret ?_ | (refine thn_ret (K := K) ?_; clear hK K) | refine thn_ret ?_ | refine blk_ret ?_ | (refine thn_exit (K := K) ?_; clear hK K) | refine thn_exit ?_ | refine blk_here ?_ | refine blk_past rfl ?_ | refine thn_norm ?_ | refine blk_norm ?_ | refine CW.condT rfl ?_ | refine CW.condF rfl ?_ | (refine hK _ _ ?_; clear hK K))
    refine CW.held (fun _ => False) (.take 0 (.take 1 (.take 2 (.take 3 (.take 4 (.take 5 (.take 6 (.take 7 (.take 8 .nil))))))))) rfl (by kernel_rfl) (by kernel_rfl) (fun w8 g8 => ?_)
    have g78 := (g6.then g7)
    repeat (first | refine AL.nil ?_ | refine AL.auto (hn := ?_) | refine AL.gskip rfl rfl rfl rfl rfl ?_ | refine AL.goneSkip rfl rfl rfl rfl rfl ?_ | refine AL.gauto (hn := ?_) | refine AL.oauto (hn := ?_))
    refine AL.take rfl rfl rfl (fun w hg => OpW.indexAddr i rfl rfl rfl hil hX hXs ⟨rfl, rfl⟩) ?_
    repeat (first | refine AL.nil ?_ | refine AL.auto (hn := ?_) | refine AL.gskip rfl rfl rfl rfl rfl ?_ | refine AL.goneSkip rfl rfl rfl rfl rfl ?_ | refine AL.gauto (hn := ?_) | refine AL.oauto (hn := ?_))
    refine AL.take rfl rfl rfl (fun w hg => OpW.loadS (v := .int .i64 (lo N i : Nat)) rfl ((ox.sl.grow g78).grow hg) (by rw [Nat.mul_one]; exact li_get _ _ _ hil) ⟨rfl, rfl⟩) ?_
    repeat (first | refine AL.nil ?_ | refine AL.auto (hn := ?_) | refine AL.gskip rfl rfl rfl rfl rfl ?_ | refine AL.goneSkip rfl rfl rfl rfl rfl ?_ | refine AL.gauto (hn := ?_) | refine AL.oauto (hn := ?_))
    refine AL.take rfl rfl rfl (fun w hg => OpW.indexAddr i rfl rfl rfl hil hY hYs ⟨rfl, rfl⟩) ?_
    repeat (first | refine AL.nil ?_ | refine AL.auto (hn := ?_) | refine AL.gskip rfl rfl rfl rfl rfl ?_ | refine AL.goneSkip rfl rfl rfl rfl rfl ?_ | refine AL.gauto (hn := ?_) | refine AL.oauto (hn := ?_))
    refine AL.take rfl rfl rfl (fun w hg => OpW.loadS (v := .int .i64 (lo M i : Nat)) rfl ((oy.sl.grow g78).grow hg) (by rw [Nat.mul_one]; exact li_get _ _ _ hil) ⟨rfl, rfl⟩) ?_
    repeat (first | refine AL.nil ?_ | refine AL.auto (hn := ?_) | refine AL.gskip rfl rfl rfl rfl rfl ?_ | refine AL.goneSkip rfl rfl rfl rfl rfl ?_ | refine AL.gauto (hn := ?_) | refine AL.oauto (hn := ?_))
    repeat (first | refine WL.nil ?_ | refine WL.auto (h := ?_) | refine WL.gskip rfl rfl rfl rfl ?_ | refine WL.gauto (h := ?_) | (refine CW.seq ?_; intro K hK) | refine CW.block ?_ | refine CW.region ?_ | refine CW.skip ?_ | refine CW.exit ?_ | refine CW.ret ?_ | (refine thn_ret (K := K) ?_; clear hK K) | refine thn_ret ?_ | refine blk_ret ?_ | (refine thn_exit (K := K) ?_; clear hK K) | refine thn_exit ?_ | refine blk_here ?_ | refine blk_past rfl ?_ | refine thn_norm ?_ | refine blk_norm ?_ | refine CW.condT rfl ?_ | refine CW.condF rfl ?_ | (refine hK _ _ ?_; clear hK K))
    refine CW.condP rfl (fun h3 => ?_) (fun h3 => ?_)
    · have hlt := lt_lo heq.symm (show lo M i < lo N i by omega)
      repeat (first | refine WL.nil ?_ | refine WL.auto (h := ?_) | refine WL.gskip rfl rfl rfl rfl ?_ | refine WL.gauto (h := ?_) | (refine CW.seq ?_; intro K hK) | refine CW.block ?_ | refine CW.region ?_ | refine CW.skip ?_ | refine CW.exit ?_ | refine CW.ret ?_ | (refine thn_ret (K := K) ?_; clear hK K) | refine thn_ret ?_ | refine blk_ret ?_ | (refine thn_exit (K := K) ?_; clear hK K) | refine thn_exit ?_ | refine blk_here ?_ | refine blk_past rfl ?_ | refine thn_norm ?_ | refine blk_norm ?_ | refine CW.condT rfl ?_ | refine CW.condF rfl ?_ | (refine hK _ _ ?_; clear hK K))
      refine out1 (v := .int .i64 1) Tryd.results22 rfl ⟨?_, G.then (g78.then g8)⟩ (Or.inr rfl)
      rw [cmpN, if_neg (by omega), if_pos hlt]
    · repeat (first | refine WL.nil ?_ | refine WL.auto (h := ?_) | refine WL.gskip rfl rfl rfl rfl ?_ | refine WL.gauto (h := ?_) | (refine CW.seq ?_; intro K hK) | refine CW.block ?_ | refine CW.region ?_ | refine CW.skip ?_ | refine CW.exit ?_ | refine CW.ret ?_ | (refine thn_ret (K := K) ?_; clear hK K) | refine thn_ret ?_ | refine blk_ret ?_ | (refine thn_exit (K := K) ?_; clear hK K) | refine thn_exit ?_ | refine blk_here ?_ | refine blk_past rfl ?_ | refine thn_norm ?_ | refine blk_norm ?_ | refine CW.condT rfl ?_ | refine CW.condF rfl ?_ | (refine hK _ _ ?_; clear hK K))
      exact hJ i _ _ (by omega) ⟨i, by omega, rfl, by rw [div_lo, div_lo M, heq, show lo N i = lo M i from by omega], g78.then g8, rep3 rfl rfl rfl⟩
  · obtain rfl : k = 0 := by omega
    rw [Nat.pow_zero, Nat.div_one, Nat.div_one] at heq
    repeat (first | refine WL.nil ?_ | refine WL.auto (h := ?_) | refine WL.gskip rfl rfl rfl rfl ?_ | refine WL.gauto (h := ?_) | (refine CW.seq ?_; intro K hK) | refine CW.block ?_ | refine CW.region ?_ | refine CW.skip ?_ | refine CW.exit ?_ | refine CW.ret ?_ | (refine thn_ret (K := K) ?_; clear hK K) | refine thn_ret ?_ | refine blk_ret ?_ | (refine thn_exit (K := K) ?_; clear hK K) | refine thn_exit ?_ | refine blk_here ?_ | refine blk_past rfl ?_ | refine thn_norm ?_ | refine blk_norm ?_ | refine CW.condT rfl ?_ | refine CW.condF rfl ?_ | (refine hK _ _ ?_; clear hK K))
    refine out1 (v := .int .i64 0) Tryd.results22 rfl ⟨?_, G.then g6⟩ (Or.inr rfl)
    rw [cmpN, if_neg (by omega), if_neg (by omega)]
end B
end Go.Proofs.YtbcmmamipjbfpaaDoor
