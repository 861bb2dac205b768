/- LimbRing: what is added can be taken away; a quotient times the divisor, and the remainder, is the number. Condition: the library's table of powers of ten as the text lays it. -/
import Derived.Test.YtbcmmamipjbfpaaDoorLimbQ
namespace Go.Proofs.YtbcmmamipjbfpaaDoor
namespace B
attribute [local irreducible] OpW WL CW Ret Sl Blk thn blk outOf
set_option linter.unusedVariables false
set_option linter.unusedSimpArgs false
set_option maxRecDepth 4000

theorem ring1 (a b : Nat) (h : (addN a b).2 = true) : subN (addN a b).1 b = (a, true) ∧ ¬ cmpN (addN a b).1 a < 0 := by
  unfold addN at *
  by_cases h1 : a + b < m256
  · rw [if_pos h1] at h ⊢
    unfold subN cmpN
    rw [if_pos (by simp), if_neg (by simp only; omega)]
    refine ⟨by simp, ?_⟩
    split <;> decide
  · rw [if_neg h1] at h; exact Bool.noConfusion h
theorem ring2 (a k : Nat) (ha : a < m256) (hk : k ≠ 0) : (divN a k).2 < k ∧ (mulN (divN a k).1 k).2 = true ∧ addN (mulN (divN a k).1 k).1 (divN a k).2 = (a, true) := by
  unfold divN
  rw [if_neg hk]
  simp only
  have h1 : a / k * k + a % k = a := by rw [Nat.mul_comm]; exact Nat.div_add_mod a k
  have h2 : a / k * k < m256 := by omega
  unfold mulN
  rw [if_pos h2]
  unfold addN
  simp only
  rw [h1, if_pos ha]
  exact ⟨Nat.mod_lt _ (by omega), trivial, rfl⟩
theorem sub_lt (N M : Nat) (h : N < m256) : (subN N M).1 < m256 := by unfold subN; split; simp only; omega; decide
theorem div_lt (N k : Nat) (h : N < m256) : (divN N k).1 < m256 := by
  unfold divN
  split
  · decide
  · exact Nat.lt_of_le_of_lt (Nat.div_le_self _ _) h
theorem mod_lt' (N k : Nat) (h : k < m64) : (divN N k).2 < m64 := by
  unfold divN
  split
  · decide
  · exact Nat.lt_trans (Nat.mod_lt _ (by omega)) h
set_option maxHeartbeats 1000000 in
theorem lring8 (a b k : Nat) (ha : a < m256) (hb : b < m256) (hk : k < m64) (w : World) (ht : Tab w) : Ret Tryd.prog 8 #[uv a, uv b, .int .u64 (k : Nat)] w fun v w' => v = .bool true ∧ Grow w w' := by
  have hr1 := ring1 a b
  have hr2 := ring2 a k ha
  obtain ⟨⟨s, sb⟩, hs⟩ : ∃ p, p = addN a b := ⟨_, rfl⟩
  have hs' : (s, sb) = addN b a := by rw [hs]; unfold addN; rw [Nat.add_comm]
  obtain ⟨⟨q, r⟩, hq⟩ : ∃ p, p = divN a k := ⟨_, rfl⟩
  obtain ⟨⟨x, xb⟩, hx⟩ : ∃ p, p = mulN q k := ⟨_, rfl⟩
  obtain ⟨⟨u, ub⟩, hu⟩ : ∃ p, p = addN x r := ⟨_, rfl⟩
  have sl : s < m256 := by have := add_lt a b; rw [← hs] at this; exact this
  have ql : q < m256 := by have := div_lt a k ha; rw [← hq] at this; exact this
  have rl : r < m64 := by have := mod_lt' a k hk; rw [← hq] at this; exact this
  have xl : x < m256 := by have := mul_lt q k; rw [← hx] at this; exact this
  have ul : u < m256 := by have := add_lt x r; rw [← hu] at this; exact this
  have rl2 : r < m256 := Nat.lt_trans rl (by decide)
  have hk0 : k = 0 → q = 0 ∧ r = 0 := fun h => by
    have : divN a k = (0, 0) := by unfold divN; rw [if_pos h]
    rw [← hq] at this
    simpa using this
  rw [← hs] at hr1
  rw [← hq] at hr2
  simp only at hr1 hr2
  rw [← hx] at hr2
  simp only at hr2
  rw [← hu] at hr2
  simp only [Prod.mk.injEq] at hr2
  refine Ret.enter (fn := Tryd.f8) (N := 113) Tryd.func8 rfl Tryd.ntmps8 rfl ?_
  repeat (first | refine WL.nil ?_ | refine WL.auto (h := ?_) | refine WL.gskip rfl rfl rfl rfl ?_ | refine WL.gauto (h := ?_) | (refine CW.seq ?_; intro K hK) | refine CW.block ?_ | refine CW.region ?_ | refine CW.skip ?_ | refine CW.exit ?_ | refine CW.ret ?_ | (refine thn_ret (K := K) ?_; clear hK K) | refine thn_ret ?_ | refine blk_ret ?_ | (refine thn_exit (K := K) ?_; clear hK K) | refine thn_exit ?_ | refine blk_here ?_ | refine blk_past rfl ?_ | refine thn_norm ?_ | refine blk_norm ?_ | refine CW.condT rfl ?_ | refine CW.condF rfl ?_ | (refine hK _ _ ?_; clear hK K))
  first | refine WL.step rfl ?_ | refine WL.gstep rfl rfl rfl rfl ?_
  refine OpW.box (v := uv a) rfl ?_
  intro b_a w1 n1
  have G := n1.grow
  have va : Blk w1 b_a (uc (lb a)) 24 := n1.blk
  clear n1
  repeat (first | refine WL.nil ?_ | refine WL.auto (h := ?_) | refine WL.gskip rfl rfl rfl rfl ?_ | refine WL.gauto (h := ?_) | (refine CW.seq ?_; intro K hK) | refine CW.block ?_ | refine CW.region ?_ | refine CW.skip ?_ | refine CW.exit ?_ | refine CW.ret ?_ | (refine thn_ret (K := K) ?_; clear hK K) | refine thn_ret ?_ | refine blk_ret ?_ | (refine thn_exit (K := K) ?_; clear hK K) | refine thn_exit ?_ | refine blk_here ?_ | refine blk_past rfl ?_ | refine thn_norm ?_ | refine blk_norm ?_ | refine CW.condT rfl ?_ | refine CW.condF rfl ?_ | (refine hK _ _ ?_; clear hK K))
  first | refine WL.step rfl ?_ | refine WL.gstep rfl rfl rfl rfl ?_
  refine OpW.box (v := uv b) rfl ?_
  intro b_b w2 n2
  replace va := va.grow n2.grow
  replace G := G.then (n2.grow)
  have vb : Blk w2 b_b (uc (lb b)) 24 := n2.blk
  clear n2
  repeat (first | refine WL.nil ?_ | refine WL.auto (h := ?_) | refine WL.gskip rfl rfl rfl rfl ?_ | refine WL.gauto (h := ?_) | (refine CW.seq ?_; intro K hK) | refine CW.block ?_ | refine CW.region ?_ | refine CW.skip ?_ | refine CW.exit ?_ | refine CW.ret ?_ | (refine thn_ret (K := K) ?_; clear hK K) | refine thn_ret ?_ | refine blk_ret ?_ | (refine thn_exit (K := K) ?_; clear hK K) | refine thn_exit ?_ | refine blk_here ?_ | refine blk_past rfl ?_ | refine thn_norm ?_ | refine blk_norm ?_ | refine CW.condT rfl ?_ | refine CW.condF rfl ?_ | (refine hK _ _ ?_; clear hK K))
  first | refine WL.step rfl ?_ | refine WL.gstep rfl rfl rfl rfl ?_
  refine OpW.loadAgg (uc (lb a)).toList rfl va rfl rfl ?_
  repeat (first | refine WL.nil ?_ | refine WL.auto (h := ?_) | refine WL.gskip rfl rfl rfl rfl ?_ | refine WL.gauto (h := ?_) | (refine CW.seq ?_; intro K hK) | refine CW.block ?_ | refine CW.region ?_ | refine CW.skip ?_ | refine CW.exit ?_ | refine CW.ret ?_ | (refine thn_ret (K := K) ?_; clear hK K) | refine thn_ret ?_ | refine blk_ret ?_ | (refine thn_exit (K := K) ?_; clear hK K) | refine thn_exit ?_ | refine blk_here ?_ | refine blk_past rfl ?_ | refine thn_norm ?_ | refine blk_norm ?_ | refine CW.condT rfl ?_ | refine CW.condF rfl ?_ | (refine hK _ _ ?_; clear hK K))
  first | refine WL.step rfl ?_ | refine WL.gstep rfl rfl rfl rfl ?_
  refine OpW.loadAgg (uc (lb b)).toList rfl vb rfl rfl ?_
  repeat (first | refine WL.nil ?_ | refine WL.auto (h := ?_) | refine WL.gskip rfl rfl rfl rfl ?_ | refine WL.gauto (h := ?_) | (refine CW.seq ?_; intro K hK) | refine CW.block ?_ | refine CW.region ?_ | refine CW.skip ?_ | refine CW.exit ?_ | refine CW.ret ?_ | (refine thn_ret (K := K) ?_; clear hK K) | refine thn_ret ?_ | refine blk_ret ?_ | (refine thn_exit (K := K) ?_; clear hK K) | refine thn_exit ?_ | refine blk_here ?_ | refine blk_past rfl ?_ | refine thn_norm ?_ | refine blk_norm ?_ | refine CW.condT rfl ?_ | refine CW.condF rfl ?_ | (refine hK _ _ ?_; clear hK K))
  first | refine WL.step rfl ?_ | refine WL.gstep rfl rfl rfl rfl ?_
  refine OpW.call ((Add18 a b ha hb w2).mono ?_) rfl
  rintro v w3 ⟨rfl, g3⟩
  rw [← hs]
  replace va := va.grow g3
  replace vb := vb.grow g3
  replace G := G.then (g3)
  clear g3
  repeat (first | refine WL.nil ?_ | refine WL.auto (h := ?_) | refine WL.gskip rfl rfl rfl rfl ?_ | refine WL.gauto (h := ?_) | (refine CW.seq ?_; intro K hK) | refine CW.block ?_ | refine CW.region ?_ | refine CW.skip ?_ | refine CW.exit ?_ | refine CW.ret ?_ | (refine thn_ret (K := K) ?_; clear hK K) | refine thn_ret ?_ | refine blk_ret ?_ | (refine thn_exit (K := K) ?_; clear hK K) | refine thn_exit ?_ | refine blk_here ?_ | refine blk_past rfl ?_ | refine thn_norm ?_ | refine blk_norm ?_ | refine CW.condT rfl ?_ | refine CW.condF rfl ?_ | (refine hK _ _ ?_; clear hK K))
  first | refine WL.step rfl ?_ | refine WL.gstep rfl rfl rfl rfl ?_
  refine OpW.alloc (fun b_s w4 n4 => ?_)
  have z4 := n4.blk
  have f4 := n4.fresh
  have F4 := G.size
  have e4a : ¬ b_a = b_s := fun e => by have := va.lt; omega
  have e4b : ¬ b_b = b_s := fun e => by have := vb.lt; omega
  repeat (first | refine WL.nil ?_ | refine WL.auto (h := ?_) | refine WL.gskip rfl rfl rfl rfl ?_ | refine WL.gauto (h := ?_) | (refine CW.seq ?_; intro K hK) | refine CW.block ?_ | refine CW.region ?_ | refine CW.skip ?_ | refine CW.exit ?_ | refine CW.ret ?_ | (refine thn_ret (K := K) ?_; clear hK K) | refine thn_ret ?_ | refine blk_ret ?_ | (refine thn_exit (K := K) ?_; clear hK K) | refine thn_exit ?_ | refine blk_here ?_ | refine blk_past rfl ?_ | refine thn_norm ?_ | refine blk_norm ?_ | refine CW.condT rfl ?_ | refine CW.condF rfl ?_ | (refine hK _ _ ?_; clear hK K))
  refine WL.step0 ?_
  refine OpW.storeAll (d := uc (lb s)) rfl rfl rfl z4 rfl rfl (fun w5 p5 vs => ?_)
  replace va := (va.grow n4.grow).keep p5.chg e4a
  replace vb := (vb.grow n4.grow).keep p5.chg e4b
  replace G := (G.then n4.grow).chgNew p5.chg (fun i hi e => by omega)
  clear n4 z4 f4 F4 p5 e4a e4b
  repeat (first | refine WL.nil ?_ | refine WL.auto (h := ?_) | refine WL.gskip rfl rfl rfl rfl ?_ | refine WL.gauto (h := ?_) | (refine CW.seq ?_; intro K hK) | refine CW.block ?_ | refine CW.region ?_ | refine CW.skip ?_ | refine CW.exit ?_ | refine CW.ret ?_ | (refine thn_ret (K := K) ?_; clear hK K) | refine thn_ret ?_ | refine blk_ret ?_ | (refine thn_exit (K := K) ?_; clear hK K) | refine thn_exit ?_ | refine blk_here ?_ | refine blk_past rfl ?_ | refine thn_norm ?_ | refine blk_norm ?_ | refine CW.condT rfl ?_ | refine CW.condF rfl ?_ | (refine hK _ _ ?_; clear hK K))
  first | refine WL.step rfl ?_ | refine WL.gstep rfl rfl rfl rfl ?_
  refine OpW.loadAgg (uc (lb b)).toList rfl vb rfl rfl ?_
  repeat (first | refine WL.nil ?_ | refine WL.auto (h := ?_) | refine WL.gskip rfl rfl rfl rfl ?_ | refine WL.gauto (h := ?_) | (refine CW.seq ?_; intro K hK) | refine CW.block ?_ | refine CW.region ?_ | refine CW.skip ?_ | refine CW.exit ?_ | refine CW.ret ?_ | (refine thn_ret (K := K) ?_; clear hK K) | refine thn_ret ?_ | refine blk_ret ?_ | (refine thn_exit (K := K) ?_; clear hK K) | refine thn_exit ?_ | refine blk_here ?_ | refine blk_past rfl ?_ | refine thn_norm ?_ | refine blk_norm ?_ | refine CW.condT rfl ?_ | refine CW.condF rfl ?_ | (refine hK _ _ ?_; clear hK K))
  first | refine WL.step rfl ?_ | refine WL.gstep rfl rfl rfl rfl ?_
  refine OpW.loadAgg (uc (lb a)).toList rfl va rfl rfl ?_
  repeat (first | refine WL.nil ?_ | refine WL.auto (h := ?_) | refine WL.gskip rfl rfl rfl rfl ?_ | refine WL.gauto (h := ?_) | (refine CW.seq ?_; intro K hK) | refine CW.block ?_ | refine CW.region ?_ | refine CW.skip ?_ | refine CW.exit ?_ | refine CW.ret ?_ | (refine thn_ret (K := K) ?_; clear hK K) | refine thn_ret ?_ | refine blk_ret ?_ | (refine thn_exit (K := K) ?_; clear hK K) | refine thn_exit ?_ | refine blk_here ?_ | refine blk_past rfl ?_ | refine thn_norm ?_ | refine blk_norm ?_ | refine CW.condT rfl ?_ | refine CW.condF rfl ?_ | (refine hK _ _ ?_; clear hK K))
  first | refine WL.step rfl ?_ | refine WL.gstep rfl rfl rfl rfl ?_
  refine OpW.call ((Add18 b a hb ha w5).mono ?_) rfl
  rintro v w6 ⟨rfl, g6⟩
  rw [← hs']
  replace va := va.grow g6
  replace vb := vb.grow g6
  replace vs := vs.grow g6
  replace G := G.then (g6)
  clear g6
  repeat (first | refine WL.nil ?_ | refine WL.auto (h := ?_) | refine WL.gskip rfl rfl rfl rfl ?_ | refine WL.gauto (h := ?_) | (refine CW.seq ?_; intro K hK) | refine CW.block ?_ | refine CW.region ?_ | refine CW.skip ?_ | refine CW.exit ?_ | refine CW.ret ?_ | (refine thn_ret (K := K) ?_; clear hK K) | refine thn_ret ?_ | refine blk_ret ?_ | (refine thn_exit (K := K) ?_; clear hK K) | refine thn_exit ?_ | refine blk_here ?_ | refine blk_past rfl ?_ | refine thn_norm ?_ | refine blk_norm ?_ | refine CW.condT rfl ?_ | refine CW.condF rfl ?_ | (refine hK _ _ ?_; clear hK K))
  first | refine WL.step rfl ?_ | refine WL.gstep rfl rfl rfl rfl ?_
  refine OpW.alloc (fun b_t w7 n7 => ?_)
  have z7 := n7.blk
  have f7 := n7.fresh
  have F7 := G.size
  have e7a : ¬ b_a = b_t := fun e => by have := va.lt; omega
  have e7b : ¬ b_b = b_t := fun e => by have := vb.lt; omega
  have e7s : ¬ b_s = b_t := fun e => by have := vs.lt; omega
  repeat (first | refine WL.nil ?_ | refine WL.auto (h := ?_) | refine WL.gskip rfl rfl rfl rfl ?_ | refine WL.gauto (h := ?_) | (refine CW.seq ?_; intro K hK) | refine CW.block ?_ | refine CW.region ?_ | refine CW.skip ?_ | refine CW.exit ?_ | refine CW.ret ?_ | (refine thn_ret (K := K) ?_; clear hK K) | refine thn_ret ?_ | refine blk_ret ?_ | (refine thn_exit (K := K) ?_; clear hK K) | refine thn_exit ?_ | refine blk_here ?_ | refine blk_past rfl ?_ | refine thn_norm ?_ | refine blk_norm ?_ | refine CW.condT rfl ?_ | refine CW.condF rfl ?_ | (refine hK _ _ ?_; clear hK K))
  refine WL.step0 ?_
  refine OpW.storeAll (d := uc (lb s)) rfl rfl rfl z7 rfl rfl (fun w8 p8 vt => ?_)
  replace va := (va.grow n7.grow).keep p8.chg e7a
  replace vb := (vb.grow n7.grow).keep p8.chg e7b
  replace vs := (vs.grow n7.grow).keep p8.chg e7s
  replace G := (G.then n7.grow).chgNew p8.chg (fun i hi e => by omega)
  clear n7 z7 f7 F7 p8 e7a e7b e7s
  repeat (first | refine WL.nil ?_ | refine WL.auto (h := ?_) | refine WL.gskip rfl rfl rfl rfl ?_ | refine WL.gauto (h := ?_) | (refine CW.seq ?_; intro K hK) | refine CW.block ?_ | refine CW.region ?_ | refine CW.skip ?_ | refine CW.exit ?_ | refine CW.ret ?_ | (refine thn_ret (K := K) ?_; clear hK K) | refine thn_ret ?_ | refine blk_ret ?_ | (refine thn_exit (K := K) ?_; clear hK K) | refine thn_exit ?_ | refine blk_here ?_ | refine blk_past rfl ?_ | refine thn_norm ?_ | refine blk_norm ?_ | refine CW.condT rfl ?_ | refine CW.condF rfl ?_ | (refine hK _ _ ?_; clear hK K))
  first | refine WL.step rfl ?_ | refine WL.gstep rfl rfl rfl rfl ?_
  refine OpW.call ((fixed13 w8 (ht.grow G)).mono ?_) rfl
  rintro v w99 ⟨rfl, g99⟩
  replace va := va.grow g99
  replace vb := vb.grow g99
  replace vs := vs.grow g99
  replace vt := vt.grow g99
  replace G := G.then g99
  clear g99
  repeat (first | refine WL.nil ?_ | refine WL.auto (h := ?_) | refine WL.gskip rfl rfl rfl rfl ?_ | refine WL.gauto (h := ?_) | (refine CW.seq ?_; intro K hK) | refine CW.block ?_ | refine CW.region ?_ | refine CW.skip ?_ | refine CW.exit ?_ | refine CW.ret ?_ | (refine thn_ret (K := K) ?_; clear hK K) | refine thn_ret ?_ | refine blk_ret ?_ | (refine thn_exit (K := K) ?_; clear hK K) | refine thn_exit ?_ | refine blk_here ?_ | refine blk_past rfl ?_ | refine thn_norm ?_ | refine blk_norm ?_ | refine CW.condT rfl ?_ | refine CW.condF rfl ?_ | (refine hK _ _ ?_; clear hK K))
  first | refine WL.step rfl ?_ | refine WL.gstep rfl rfl rfl rfl ?_
  refine OpW.loadAgg (uc (lb s)).toList rfl vs rfl rfl ?_
  repeat (first | refine WL.nil ?_ | refine WL.auto (h := ?_) | refine WL.gskip rfl rfl rfl rfl ?_ | refine WL.gauto (h := ?_) | (refine CW.seq ?_; intro K hK) | refine CW.block ?_ | refine CW.region ?_ | refine CW.skip ?_ | refine CW.exit ?_ | refine CW.ret ?_ | (refine thn_ret (K := K) ?_; clear hK K) | refine thn_ret ?_ | refine blk_ret ?_ | (refine thn_exit (K := K) ?_; clear hK K) | refine thn_exit ?_ | refine blk_here ?_ | refine blk_past rfl ?_ | refine thn_norm ?_ | refine blk_norm ?_ | refine CW.condT rfl ?_ | refine CW.condF rfl ?_ | (refine hK _ _ ?_; clear hK K))
  first | refine WL.step rfl ?_ | refine WL.gstep rfl rfl rfl rfl ?_
  refine OpW.loadAgg (uc (lb s)).toList rfl vt rfl rfl ?_
  repeat (first | refine WL.nil ?_ | refine WL.auto (h := ?_) | refine WL.gskip rfl rfl rfl rfl ?_ | refine WL.gauto (h := ?_) | (refine CW.seq ?_; intro K hK) | refine CW.block ?_ | refine CW.region ?_ | refine CW.skip ?_ | refine CW.exit ?_ | refine CW.ret ?_ | (refine thn_ret (K := K) ?_; clear hK K) | refine thn_ret ?_ | refine blk_ret ?_ | (refine thn_exit (K := K) ?_; clear hK K) | refine thn_exit ?_ | refine blk_here ?_ | refine blk_past rfl ?_ | refine thn_norm ?_ | refine blk_norm ?_ | refine CW.condT rfl ?_ | refine CW.condF rfl ?_ | (refine hK _ _ ?_; clear hK K))
  first | refine WL.step rfl ?_ | refine WL.gstep rfl rfl rfl rfl ?_
  refine OpW.neqU (N := s) (M := s) rfl rfl sl sl ?_
  rw [decide_eq_false (fun h : ¬ s = s => h rfl)]
  repeat (first | refine WL.nil ?_ | refine WL.auto (h := ?_) | refine WL.gskip rfl rfl rfl rfl ?_ | refine WL.gauto (h := ?_) | (refine CW.seq ?_; intro K hK) | refine CW.block ?_ | refine CW.region ?_ | refine CW.skip ?_ | refine CW.exit ?_ | refine CW.ret ?_ | (refine thn_ret (K := K) ?_; clear hK K) | refine thn_ret ?_ | refine blk_ret ?_ | (refine thn_exit (K := K) ?_; clear hK K) | refine thn_exit ?_ | refine blk_here ?_ | refine blk_past rfl ?_ | refine thn_norm ?_ | refine blk_norm ?_ | refine CW.condT rfl ?_ | refine CW.condF rfl ?_ | (refine hK _ _ ?_; clear hK K))
  rw [show (!(sb == sb)) = false from by cases sb <;> rfl]
  repeat (first | refine WL.nil ?_ | refine WL.auto (h := ?_) | refine WL.gskip rfl rfl rfl rfl ?_ | refine WL.gauto (h := ?_) | (refine CW.seq ?_; intro K hK) | refine CW.block ?_ | refine CW.region ?_ | refine CW.skip ?_ | refine CW.exit ?_ | refine CW.ret ?_ | (refine thn_ret (K := K) ?_; clear hK K) | refine thn_ret ?_ | refine blk_ret ?_ | (refine thn_exit (K := K) ?_; clear hK K) | refine thn_exit ?_ | refine blk_here ?_ | refine blk_past rfl ?_ | refine thn_norm ?_ | refine blk_norm ?_ | refine CW.condT rfl ?_ | refine CW.condF rfl ?_ | (refine hK _ _ ?_; clear hK K))
  have key : ∀ w5, Grow w w5 → Blk w5 b_a (uc (lb a)) 24 → ∀ e0, K (upd (upd e0 2 (.int .u64 (k : Nat))) 3 (.pointer (some ⟨b_a, 0, none⟩))) w5 := by
    clear G va vb vs vt hr1
    intro w5 G va e0
    refine hK _ _ ?_
    clear hK
    repeat (first | refine WL.nil ?_ | refine WL.auto (h := ?_) | refine WL.gskip rfl rfl rfl rfl ?_ | refine WL.gauto (h := ?_) | (refine CW.seq ?_; intro K hK) | refine CW.block ?_ | refine CW.region ?_ | refine CW.skip ?_ | refine CW.exit ?_ | refine CW.ret ?_ | (refine thn_ret (K := K) ?_; clear hK K) | refine thn_ret ?_ | refine blk_ret ?_ | (refine thn_exit (K := K) ?_; clear hK K) | refine thn_exit ?_ | refine blk_here ?_ | refine blk_past rfl ?_ | refine thn_norm ?_ | refine blk_norm ?_ | refine CW.condT rfl ?_ | refine CW.condF rfl ?_ | (refine hK _ _ ?_; clear hK K))
    first | refine WL.step rfl ?_ | refine WL.gstep rfl rfl rfl rfl ?_
    refine OpW.loadAgg (uc (lb a)).toList rfl va rfl rfl ?_
    repeat (first | refine WL.nil ?_ | refine WL.auto (h := ?_) | refine WL.gskip rfl rfl rfl rfl ?_ | refine WL.gauto (h := ?_) | (refine CW.seq ?_; intro K hK) | refine CW.block ?_ | refine CW.region ?_ | refine CW.skip ?_ | refine CW.exit ?_ | refine CW.ret ?_ | (refine thn_ret (K := K) ?_; clear hK K) | refine thn_ret ?_ | refine blk_ret ?_ | (refine thn_exit (K := K) ?_; clear hK K) | refine thn_exit ?_ | refine blk_here ?_ | refine blk_past rfl ?_ | refine thn_norm ?_ | refine blk_norm ?_ | refine CW.condT rfl ?_ | refine CW.condF rfl ?_ | (refine hK _ _ ?_; clear hK K))
    first | refine WL.step rfl ?_ | refine WL.gstep rfl rfl rfl rfl ?_
    refine OpW.call ((Div26 a k ha hk w5).mono ?_) rfl
    rintro v w101 ⟨rfl, g101⟩
    rw [← hq]
    replace va := va.grow g101
    replace G := G.then (g101)
    clear g101
    repeat (first | refine WL.nil ?_ | refine WL.auto (h := ?_) | refine WL.gskip rfl rfl rfl rfl ?_ | refine WL.gauto (h := ?_) | (refine CW.seq ?_; intro K hK) | refine CW.block ?_ | refine CW.region ?_ | refine CW.skip ?_ | refine CW.exit ?_ | refine CW.ret ?_ | (refine thn_ret (K := K) ?_; clear hK K) | refine thn_ret ?_ | refine blk_ret ?_ | (refine thn_exit (K := K) ?_; clear hK K) | refine thn_exit ?_ | refine blk_here ?_ | refine blk_past rfl ?_ | refine thn_norm ?_ | refine blk_norm ?_ | refine CW.condT rfl ?_ | refine CW.condF rfl ?_ | (refine hK _ _ ?_; clear hK K))
    first | refine WL.step rfl ?_ | refine WL.gstep rfl rfl rfl rfl ?_
    refine OpW.alloc (fun b_q w102 n102 => ?_)
    have z102 := n102.blk
    have f102 := n102.fresh
    have F102 := G.size
    have e102a : ¬ b_a = b_q := fun e => by have := va.lt; omega
    repeat (first | refine WL.nil ?_ | refine WL.auto (h := ?_) | refine WL.gskip rfl rfl rfl rfl ?_ | refine WL.gauto (h := ?_) | (refine CW.seq ?_; intro K hK) | refine CW.block ?_ | refine CW.region ?_ | refine CW.skip ?_ | refine CW.exit ?_ | refine CW.ret ?_ | (refine thn_ret (K := K) ?_; clear hK K) | refine thn_ret ?_ | refine blk_ret ?_ | (refine thn_exit (K := K) ?_; clear hK K) | refine thn_exit ?_ | refine blk_here ?_ | refine blk_past rfl ?_ | refine thn_norm ?_ | refine blk_norm ?_ | refine CW.condT rfl ?_ | refine CW.condF rfl ?_ | (refine hK _ _ ?_; clear hK K))
    refine WL.step0 ?_
    refine OpW.storeAll (d := uc (lb q)) rfl rfl rfl z102 rfl rfl (fun w103 p103 vq => ?_)
    replace va := (va.grow n102.grow).keep p103.chg e102a
    replace G := (G.then n102.grow).chgNew p103.chg (fun i hi e => by omega)
    clear n102 z102 f102 F102 p103 e102a
    repeat (first | refine WL.nil ?_ | refine WL.auto (h := ?_) | refine WL.gskip rfl rfl rfl rfl ?_ | refine WL.gauto (h := ?_) | (refine CW.seq ?_; intro K hK) | refine CW.block ?_ | refine CW.region ?_ | refine CW.skip ?_ | refine CW.exit ?_ | refine CW.ret ?_ | (refine thn_ret (K := K) ?_; clear hK K) | refine thn_ret ?_ | refine blk_ret ?_ | (refine thn_exit (K := K) ?_; clear hK K) | refine thn_exit ?_ | refine blk_here ?_ | refine blk_past rfl ?_ | refine thn_norm ?_ | refine blk_norm ?_ | refine CW.condT rfl ?_ | refine CW.condF rfl ?_ | (refine hK _ _ ?_; clear hK K))
    first | refine WL.step rfl ?_ | refine WL.gstep rfl rfl rfl rfl ?_
    refine OpW.loadAgg (uc (lb q)).toList rfl vq rfl rfl ?_
    repeat (first | refine WL.nil ?_ | refine WL.auto (h := ?_) | refine WL.gskip rfl rfl rfl rfl ?_ | refine WL.gauto (h := ?_) | (refine CW.seq ?_; intro K hK) | refine CW.block ?_ | refine CW.region ?_ | refine CW.skip ?_ | refine CW.exit ?_ | refine CW.ret ?_ | (refine thn_ret (K := K) ?_; clear hK K) | refine thn_ret ?_ | refine blk_ret ?_ | (refine thn_exit (K := K) ?_; clear hK K) | refine thn_exit ?_ | refine blk_here ?_ | refine blk_past rfl ?_ | refine thn_norm ?_ | refine blk_norm ?_ | refine CW.condT rfl ?_ | refine CW.condF rfl ?_ | (refine hK _ _ ?_; clear hK K))
    first | refine WL.step rfl ?_ | refine WL.gstep rfl rfl rfl rfl ?_
    refine OpW.call ((Mul24 q k ql hk w103).mono ?_) rfl
    rintro v w104 ⟨rfl, g104⟩
    rw [← hx]
    replace va := va.grow g104
    replace vq := vq.grow g104
    replace G := G.then (g104)
    clear g104
    repeat (first | refine WL.nil ?_ | refine WL.auto (h := ?_) | refine WL.gskip rfl rfl rfl rfl ?_ | refine WL.gauto (h := ?_) | (refine CW.seq ?_; intro K hK) | refine CW.block ?_ | refine CW.region ?_ | refine CW.skip ?_ | refine CW.exit ?_ | refine CW.ret ?_ | (refine thn_ret (K := K) ?_; clear hK K) | refine thn_ret ?_ | refine blk_ret ?_ | (refine thn_exit (K := K) ?_; clear hK K) | refine thn_exit ?_ | refine blk_here ?_ | refine blk_past rfl ?_ | refine thn_norm ?_ | refine blk_norm ?_ | refine CW.condT rfl ?_ | refine CW.condF rfl ?_ | (refine hK _ _ ?_; clear hK K))
    first | refine WL.step rfl ?_ | refine WL.gstep rfl rfl rfl rfl ?_
    refine OpW.alloc (fun b_x w105 n105 => ?_)
    have z105 := n105.blk
    have f105 := n105.fresh
    have F105 := G.size
    have e105a : ¬ b_a = b_x := fun e => by have := va.lt; omega
    have e105q : ¬ b_q = b_x := fun e => by have := vq.lt; omega
    repeat (first | refine WL.nil ?_ | refine WL.auto (h := ?_) | refine WL.gskip rfl rfl rfl rfl ?_ | refine WL.gauto (h := ?_) | (refine CW.seq ?_; intro K hK) | refine CW.block ?_ | refine CW.region ?_ | refine CW.skip ?_ | refine CW.exit ?_ | refine CW.ret ?_ | (refine thn_ret (K := K) ?_; clear hK K) | refine thn_ret ?_ | refine blk_ret ?_ | (refine thn_exit (K := K) ?_; clear hK K) | refine thn_exit ?_ | refine blk_here ?_ | refine blk_past rfl ?_ | refine thn_norm ?_ | refine blk_norm ?_ | refine CW.condT rfl ?_ | refine CW.condF rfl ?_ | (refine hK _ _ ?_; clear hK K))
    refine WL.step0 ?_
    refine OpW.storeAll (d := uc (lb x)) rfl rfl rfl z105 rfl rfl (fun w106 p106 vx => ?_)
    replace va := (va.grow n105.grow).keep p106.chg e105a
    replace vq := (vq.grow n105.grow).keep p106.chg e105q
    replace G := (G.then n105.grow).chgNew p106.chg (fun i hi e => by omega)
    clear n105 z105 f105 F105 p106 e105a e105q
    repeat (first | refine WL.nil ?_ | refine WL.auto (h := ?_) | refine WL.gskip rfl rfl rfl rfl ?_ | refine WL.gauto (h := ?_) | (refine CW.seq ?_; intro K hK) | refine CW.block ?_ | refine CW.region ?_ | refine CW.skip ?_ | refine CW.exit ?_ | refine CW.ret ?_ | (refine thn_ret (K := K) ?_; clear hK K) | refine thn_ret ?_ | refine blk_ret ?_ | (refine thn_exit (K := K) ?_; clear hK K) | refine thn_exit ?_ | refine blk_here ?_ | refine blk_past rfl ?_ | refine thn_norm ?_ | refine blk_norm ?_ | refine CW.condT rfl ?_ | refine CW.condF rfl ?_ | (refine hK _ _ ?_; clear hK K))
    have key2 : ∀ w9 b_u, Grow w w9 → Blk w9 b_a (uc (lb a)) 24 → Blk w9 b_q (uc (lb q)) 24 → Blk w9 b_u (uc (lb u)) 24 → ∀ e0, K (upd (upd (upd (upd (upd (upd (upd e0 2 (.int .u64 (k : Nat))) 3 (.pointer (some ⟨b_a, 0, none⟩))) 13 (.pointer (some ⟨b_q, 0, none⟩))) 14 (.int .u64 (r : Nat))) 16 (.bool xb)) 17 (.pointer (some ⟨b_u, 0, none⟩))) 18 (.bool ub)) w9 := by
      clear G va vq vx
      intro w9 b_u G va vq vu e0
      refine hK _ _ ?_
      clear hK
      by_cases h0 : k = 0
      · obtain ⟨rfl, rfl⟩ := hk0 h0
        subst h0
        repeat (first | refine WL.nil ?_ | refine WL.auto (h := ?_) | refine WL.gskip rfl rfl rfl rfl ?_ | refine WL.gauto (h := ?_) | (refine CW.seq ?_; intro K hK) | refine CW.block ?_ | refine CW.region ?_ | refine CW.skip ?_ | refine CW.exit ?_ | refine CW.ret ?_ | (refine thn_ret (K := K) ?_; clear hK K) | refine thn_ret ?_ | refine blk_ret ?_ | (refine thn_exit (K := K) ?_; clear hK K) | refine thn_exit ?_ | refine blk_here ?_ | refine blk_past rfl ?_ | refine thn_norm ?_ | refine blk_norm ?_ | refine CW.condT rfl ?_ | refine CW.condF rfl ?_ | (refine hK _ _ ?_; clear hK K))
        first | refine WL.step rfl ?_ | refine WL.gstep rfl rfl rfl rfl ?_
        refine OpW.loadAgg (uc (lb 0)).toList rfl vq rfl rfl ?_
        repeat (first | refine WL.nil ?_ | refine WL.auto (h := ?_) | refine WL.gskip rfl rfl rfl rfl ?_ | refine WL.gauto (h := ?_) | (refine CW.seq ?_; intro K hK) | refine CW.block ?_ | refine CW.region ?_ | refine CW.skip ?_ | refine CW.exit ?_ | refine CW.ret ?_ | (refine thn_ret (K := K) ?_; clear hK K) | refine thn_ret ?_ | refine blk_ret ?_ | (refine thn_exit (K := K) ?_; clear hK K) | refine thn_exit ?_ | refine blk_here ?_ | refine blk_past rfl ?_ | refine thn_norm ?_ | refine blk_norm ?_ | refine CW.condT rfl ?_ | refine CW.condF rfl ?_ | (refine hK _ _ ?_; clear hK K))
        first | refine WL.step rfl ?_ | refine WL.gstep rfl rfl rfl rfl ?_
        refine OpW.buildA (cells := uc (lb 0)) rfl rfl ?_
        repeat (first | refine WL.nil ?_ | refine WL.auto (h := ?_) | refine WL.gskip rfl rfl rfl rfl ?_ | refine WL.gauto (h := ?_) | (refine CW.seq ?_; intro K hK) | refine CW.block ?_ | refine CW.region ?_ | refine CW.skip ?_ | refine CW.exit ?_ | refine CW.ret ?_ | (refine thn_ret (K := K) ?_; clear hK K) | refine thn_ret ?_ | refine blk_ret ?_ | (refine thn_exit (K := K) ?_; clear hK K) | refine thn_exit ?_ | refine blk_here ?_ | refine blk_past rfl ?_ | refine thn_norm ?_ | refine blk_norm ?_ | refine CW.condT rfl ?_ | refine CW.condF rfl ?_ | (refine hK _ _ ?_; clear hK K))
        first | refine WL.step rfl ?_ | refine WL.gstep rfl rfl rfl rfl ?_
        refine OpW.eqlU (N := 0) (M := 0) rfl rfl ql ql ?_
        rw [decide_eq_true rfl]
        repeat (first | refine WL.nil ?_ | refine WL.auto (h := ?_) | refine WL.gskip rfl rfl rfl rfl ?_ | refine WL.gskipU rfl rfl rfl rfl ?_ | refine WL.gauto (h := ?_) | (refine CW.seq ?_; intro K hK) | refine CW.block ?_ | refine CW.region ?_ | refine CW.skip ?_ | refine CW.exit ?_ | refine CW.ret ?_ | (refine thn_ret (K := K) ?_; clear hK K) | refine thn_ret ?_ | refine blk_ret ?_ | (refine thn_exit (K := K) ?_; clear hK K) | refine thn_exit ?_ | refine blk_here ?_ | refine blk_past rfl ?_ | refine thn_norm ?_ | refine blk_norm ?_ | refine CW.condT rfl ?_ | refine CW.condF rfl ?_ | (refine hK _ _ ?_; clear hK K))
        exact out1 (v := .bool true) Tryd.results8 rfl ⟨rfl, G⟩ (Or.inr rfl)
      · obtain ⟨h1, h2, h3, h4⟩ := hr2 h0
        subst h3
        repeat (first | refine WL.nil ?_ | refine WL.auto (h := ?_) | refine WL.gskip rfl rfl rfl rfl ?_ | refine WL.gauto (h := ?_) | (refine CW.seq ?_; intro K hK) | refine CW.block ?_ | refine CW.region ?_ | refine CW.skip ?_ | refine CW.exit ?_ | refine CW.ret ?_ | (refine thn_ret (K := K) ?_; clear hK K) | refine thn_ret ?_ | refine blk_ret ?_ | (refine thn_exit (K := K) ?_; clear hK K) | refine thn_exit ?_ | refine blk_here ?_ | refine blk_past rfl ?_ | refine thn_norm ?_ | refine blk_norm ?_ | refine CW.condT rfl ?_ | refine CW.condF rfl ?_ | (refine hK _ _ ?_; clear hK K))
        rw [decide_eq_false (p := (k : Int) = 0) (by omega)]
        repeat (first | refine WL.nil ?_ | refine WL.auto (h := ?_) | refine WL.gskip rfl rfl rfl rfl ?_ | refine WL.gskipU rfl rfl rfl rfl ?_ | refine WL.gauto (h := ?_) | (refine CW.seq ?_; intro K hK) | refine CW.block ?_ | refine CW.region ?_ | refine CW.skip ?_ | refine CW.exit ?_ | refine CW.ret ?_ | (refine thn_ret (K := K) ?_; clear hK K) | refine thn_ret ?_ | refine blk_ret ?_ | (refine thn_exit (K := K) ?_; clear hK K) | refine thn_exit ?_ | refine blk_here ?_ | refine blk_past rfl ?_ | refine thn_norm ?_ | refine blk_norm ?_ | refine CW.condT rfl ?_ | refine CW.condF rfl ?_ | (refine hK _ _ ?_; clear hK K))
        rw [decide_eq_true (p := ¬ (k : Int) = 0) (by omega)]
        repeat (first | refine WL.nil ?_ | refine WL.auto (h := ?_) | refine WL.gskip rfl rfl rfl rfl ?_ | refine WL.gskipU rfl rfl rfl rfl ?_ | refine WL.gauto (h := ?_) | (refine CW.seq ?_; intro K hK) | refine CW.block ?_ | refine CW.region ?_ | refine CW.skip ?_ | refine CW.exit ?_ | refine CW.ret ?_ | (refine thn_ret (K := K) ?_; clear hK K) | refine thn_ret ?_ | refine blk_ret ?_ | (refine thn_exit (K := K) ?_; clear hK K) | refine thn_exit ?_ | refine blk_here ?_ | refine blk_past rfl ?_ | refine thn_norm ?_ | refine blk_norm ?_ | refine CW.condT rfl ?_ | refine CW.condF rfl ?_ | (refine hK _ _ ?_; clear hK K))
        rw [decide_eq_true (p := (r : Int) < (k : Int)) (by omega)]
        rw [h2]
        rw [h4]
        repeat (first | refine WL.nil ?_ | refine WL.auto (h := ?_) | refine WL.gskip rfl rfl rfl rfl ?_ | refine WL.gskipU rfl rfl rfl rfl ?_ | refine WL.gauto (h := ?_) | (refine CW.seq ?_; intro K hK) | refine CW.block ?_ | refine CW.region ?_ | refine CW.skip ?_ | refine CW.exit ?_ | refine CW.ret ?_ | (refine thn_ret (K := K) ?_; clear hK K) | refine thn_ret ?_ | refine blk_ret ?_ | (refine thn_exit (K := K) ?_; clear hK K) | refine thn_exit ?_ | refine blk_here ?_ | refine blk_past rfl ?_ | refine thn_norm ?_ | refine blk_norm ?_ | refine CW.condT rfl ?_ | refine CW.condF rfl ?_ | (refine hK _ _ ?_; clear hK K))
        first | refine WL.step rfl ?_ | refine WL.gstep rfl rfl rfl rfl ?_
        refine OpW.loadAgg (uc (lb u)).toList rfl vu rfl rfl ?_
        repeat (first | refine WL.nil ?_ | refine WL.auto (h := ?_) | refine WL.gskip rfl rfl rfl rfl ?_ | refine WL.gauto (h := ?_) | (refine CW.seq ?_; intro K hK) | refine CW.block ?_ | refine CW.region ?_ | refine CW.skip ?_ | refine CW.exit ?_ | refine CW.ret ?_ | (refine thn_ret (K := K) ?_; clear hK K) | refine thn_ret ?_ | refine blk_ret ?_ | (refine thn_exit (K := K) ?_; clear hK K) | refine thn_exit ?_ | refine blk_here ?_ | refine blk_past rfl ?_ | refine thn_norm ?_ | refine blk_norm ?_ | refine CW.condT rfl ?_ | refine CW.condF rfl ?_ | (refine hK _ _ ?_; clear hK K))
        first | refine WL.step rfl ?_ | refine WL.gstep rfl rfl rfl rfl ?_
        refine OpW.loadAgg (uc (lb u)).toList rfl va rfl rfl ?_
        repeat (first | refine WL.nil ?_ | refine WL.auto (h := ?_) | refine WL.gskip rfl rfl rfl rfl ?_ | refine WL.gauto (h := ?_) | (refine CW.seq ?_; intro K hK) | refine CW.block ?_ | refine CW.region ?_ | refine CW.skip ?_ | refine CW.exit ?_ | refine CW.ret ?_ | (refine thn_ret (K := K) ?_; clear hK K) | refine thn_ret ?_ | refine blk_ret ?_ | (refine thn_exit (K := K) ?_; clear hK K) | refine thn_exit ?_ | refine blk_here ?_ | refine blk_past rfl ?_ | refine thn_norm ?_ | refine blk_norm ?_ | refine CW.condT rfl ?_ | refine CW.condF rfl ?_ | (refine hK _ _ ?_; clear hK K))
        first | refine WL.step rfl ?_ | refine WL.gstep rfl rfl rfl rfl ?_
        refine OpW.eqlU (N := u) (M := u) rfl rfl ul ul ?_
        rw [decide_eq_true rfl]
        repeat (first | refine WL.nil ?_ | refine WL.auto (h := ?_) | refine WL.gskip rfl rfl rfl rfl ?_ | refine WL.gauto (h := ?_) | (refine CW.seq ?_; intro K hK) | refine CW.block ?_ | refine CW.region ?_ | refine CW.skip ?_ | refine CW.exit ?_ | refine CW.ret ?_ | (refine thn_ret (K := K) ?_; clear hK K) | refine thn_ret ?_ | refine blk_ret ?_ | (refine thn_exit (K := K) ?_; clear hK K) | refine thn_exit ?_ | refine blk_here ?_ | refine blk_past rfl ?_ | refine thn_norm ?_ | refine blk_norm ?_ | refine CW.condT rfl ?_ | refine CW.condF rfl ?_ | (refine hK _ _ ?_; clear hK K))
        exact out1 (v := .bool true) Tryd.results8 rfl ⟨rfl, G⟩ (Or.inr rfl)
    refine CW.held (fun _ => False) (.take 0 (.take 1 (.two 2 (.two 3 (.take 4 (.take 5 (.take 6 (.one 7 (.one 8 (.one 9 .nil)))))) 7 (.one 3 (.take 4 (.take 5 (.take 6 (.one 8 (.one 9 .nil))))))) 7 (.one 2 (.one 3 (.take 4 (.take 5 (.take 6 (.one 8 (.one 9 .nil)))))))))) rfl (by kernel_rfl) (by kernel_rfl) (fun w6 g6 => ?_)
    repeat (first | refine AL.nil ?_ | refine AL.auto (hn := ?_) | refine AL.gskip rfl rfl rfl rfl rfl ?_ | refine AL.goneSkip rfl rfl rfl rfl rfl ?_ | refine AL.gauto (hn := ?_) | refine AL.oauto (hn := ?_))
    refine AL.take rfl rfl rfl (fun w hg => OpW.loadAgg (uc (lb x)).toList rfl (Blk.keep vx hg (fun h => h)) rfl rfl ⟨rfl, rfl⟩) ?_
    repeat (first | refine AL.nil ?_ | refine AL.auto (hn := ?_) | refine AL.gskip rfl rfl rfl rfl rfl ?_ | refine AL.goneSkip rfl rfl rfl rfl rfl ?_ | refine AL.gauto (hn := ?_) | refine AL.oauto (hn := ?_))
    refine AL.two ?_ ?_
    · first | refine AL.one rfl rfl ?_ | refine AL.gone rfl rfl rfl rfl rfl ?_
      refine OpW.call ((Of28 r rl w6).mono ?_) rfl
      rintro v w7 ⟨rfl, g7⟩
      refine ⟨fun h => h.grow g7, ?_⟩
      repeat (first | refine AL.nil ?_ | refine AL.auto (hn := ?_) | refine AL.gskip rfl rfl rfl rfl rfl ?_ | refine AL.goneSkip rfl rfl rfl rfl rfl ?_ | refine AL.gauto (hn := ?_) | refine AL.oauto (hn := ?_))
      refine AL.two ?_ ?_
      · first | refine AL.one rfl rfl ?_ | refine AL.gone rfl rfl rfl rfl rfl ?_
        refine OpW.call ((Add18 x r xl rl2 w7).mono ?_) rfl
        rintro v w8 ⟨rfl, g8⟩
        rw [← hu]
        refine ⟨fun h => h.grow g8, ?_⟩
        repeat (first | refine AL.nil ?_ | refine AL.auto (hn := ?_) | refine AL.gskip rfl rfl rfl rfl rfl ?_ | refine AL.goneSkip rfl rfl rfl rfl rfl ?_ | refine AL.gauto (hn := ?_) | refine AL.oauto (hn := ?_))
        first | refine AL.one rfl rfl ?_ | refine AL.gone rfl rfl rfl rfl rfl ?_
        refine OpW.alloc (fun b_u w9 n9 => ?_)
        have hz : Blk w9 b_u (uc fun _ => 0) 24 := n9.blk
        refine ⟨fun h => h.grow n9.grow, ?_⟩
        repeat (first | refine AL.nil ?_ | refine AL.auto (hn := ?_) | refine AL.gskip rfl rfl rfl rfl rfl ?_ | refine AL.goneSkip rfl rfl rfl rfl rfl ?_ | refine AL.gauto (hn := ?_) | refine AL.oauto (hn := ?_))
        refine AL.one0 rfl ?_
        refine OpW.storeAll (d := uc (lb u)) rfl rfl rfl hz rfl rfl (fun w10 p10 vu => ?_)
        have gg : Grow w6 w9 := (g7.then g8).then n9.grow
        have ff : w6.heap.size ≤ b_u := by have := n9.fresh; have := g7.size; have := g8.size; omega
        have gg6 : Grow w6 w10 := gg.chgNew p10.chg (fun i hi e => by omega)
        refine ⟨fun h => (g6.then gg6), ?_⟩
        repeat (first | refine AL.nil ?_ | refine AL.auto (hn := ?_) | refine AL.gskip rfl rfl rfl rfl rfl ?_ | refine AL.goneSkip rfl rfl rfl rfl rfl ?_ | refine AL.gauto (hn := ?_) | refine AL.oauto (hn := ?_))
        refine thn_norm ?_
        exact K_of' (key2 w10 b_u ((G.then g6).then gg6) ((va.grow g6).grow gg6) ((vq.grow g6).grow gg6) vu) (rep7 rfl rfl rfl rfl rfl rfl rfl)
      · first | refine AL.one rfl rfl ?_ | refine AL.gone rfl rfl rfl rfl rfl ?_
        refine OpW.alloc (fun b_u w8 n9 => ?_)
        have hz0 : Blk w8 b_u (uc fun _ => 0) 24 := n9.blk
        refine ⟨fun h => h.grow n9.grow, ?_⟩
        repeat (first | refine AL.nil ?_ | refine AL.auto (hn := ?_) | refine AL.gskip rfl rfl rfl rfl rfl ?_ | refine AL.goneSkip rfl rfl rfl rfl rfl ?_ | refine AL.gauto (hn := ?_) | refine AL.oauto (hn := ?_))
        first | refine AL.one rfl rfl ?_ | refine AL.gone rfl rfl rfl rfl rfl ?_
        refine OpW.call ((Add18 x r xl rl2 w8).mono ?_) rfl
        rintro v w9 ⟨rfl, g8⟩
        have hz := hz0.grow g8
        rw [← hu]
        refine ⟨fun h => h.grow g8, ?_⟩
        repeat (first | refine AL.nil ?_ | refine AL.auto (hn := ?_) | refine AL.gskip rfl rfl rfl rfl rfl ?_ | refine AL.goneSkip rfl rfl rfl rfl rfl ?_ | refine AL.gauto (hn := ?_) | refine AL.oauto (hn := ?_))
        refine AL.one0 rfl ?_
        refine OpW.storeAll (d := uc (lb u)) rfl rfl rfl hz rfl rfl (fun w10 p10 vu => ?_)
        have gg : Grow w6 w9 := (g7.then n9.grow).then g8
        have ff : w6.heap.size ≤ b_u := by have := n9.fresh; have := g7.size; omega
        have gg6 : Grow w6 w10 := gg.chgNew p10.chg (fun i hi e => by omega)
        refine ⟨fun h => (g6.then gg6), ?_⟩
        repeat (first | refine AL.nil ?_ | refine AL.auto (hn := ?_) | refine AL.gskip rfl rfl rfl rfl rfl ?_ | refine AL.goneSkip rfl rfl rfl rfl rfl ?_ | refine AL.gauto (hn := ?_) | refine AL.oauto (hn := ?_))
        refine thn_norm ?_
        exact K_of' (key2 w10 b_u ((G.then g6).then gg6) ((va.grow g6).grow gg6) ((vq.grow g6).grow gg6) vu) (rep7 rfl rfl rfl rfl rfl rfl rfl)
    · first | refine AL.one rfl rfl ?_ | refine AL.gone rfl rfl rfl rfl rfl ?_
      refine OpW.alloc (fun b_u w7 n9 => ?_)
      have hz00 : Blk w7 b_u (uc fun _ => 0) 24 := n9.blk
      refine ⟨fun h => h.grow n9.grow, ?_⟩
      repeat (first | refine AL.nil ?_ | refine AL.auto (hn := ?_) | refine AL.gskip rfl rfl rfl rfl rfl ?_ | refine AL.goneSkip rfl rfl rfl rfl rfl ?_ | refine AL.gauto (hn := ?_) | refine AL.oauto (hn := ?_))
      first | refine AL.one rfl rfl ?_ | refine AL.gone rfl rfl rfl rfl rfl ?_
      refine OpW.call ((Of28 r rl w7).mono ?_) rfl
      rintro v w8 ⟨rfl, g7⟩
      have hz0 := hz00.grow g7
      refine ⟨fun h => h.grow g7, ?_⟩
      repeat (first | refine AL.nil ?_ | refine AL.auto (hn := ?_) | refine AL.gskip rfl rfl rfl rfl rfl ?_ | refine AL.goneSkip rfl rfl rfl rfl rfl ?_ | refine AL.gauto (hn := ?_) | refine AL.oauto (hn := ?_))
      first | refine AL.one rfl rfl ?_ | refine AL.gone rfl rfl rfl rfl rfl ?_
      refine OpW.call ((Add18 x r xl rl2 w8).mono ?_) rfl
      rintro v w9 ⟨rfl, g8⟩
      have hz := hz0.grow g8
      rw [← hu]
      refine ⟨fun h => h.grow g8, ?_⟩
      repeat (first | refine AL.nil ?_ | refine AL.auto (hn := ?_) | refine AL.gskip rfl rfl rfl rfl rfl ?_ | refine AL.goneSkip rfl rfl rfl rfl rfl ?_ | refine AL.gauto (hn := ?_) | refine AL.oauto (hn := ?_))
      refine AL.one0 rfl ?_
      refine OpW.storeAll (d := uc (lb u)) rfl rfl rfl hz rfl rfl (fun w10 p10 vu => ?_)
      have gg : Grow w6 w9 := (n9.grow.then g7).then g8
      have ff : w6.heap.size ≤ b_u := by have := n9.fresh; omega
      have gg6 : Grow w6 w10 := gg.chgNew p10.chg (fun i hi e => by omega)
      refine ⟨fun h => (g6.then gg6), ?_⟩
      repeat (first | refine AL.nil ?_ | refine AL.auto (hn := ?_) | refine AL.gskip rfl rfl rfl rfl rfl ?_ | refine AL.goneSkip rfl rfl rfl rfl rfl ?_ | refine AL.gauto (hn := ?_) | refine AL.oauto (hn := ?_))
      refine thn_norm ?_
      exact K_of' (key2 w10 b_u ((G.then g6).then gg6) ((va.grow g6).grow gg6) ((vq.grow g6).grow gg6) vu) (rep7 rfl rfl rfl rfl rfl rfl rfl)
  refine CW.cond rfl (fun h => ?_) (fun h => ?_)
  · obtain ⟨h1, h2⟩ := hr1 h
    repeat (first | refine WL.nil ?_ | refine WL.auto (h := ?_) | refine WL.gskip rfl rfl rfl rfl ?_ | refine WL.gauto (h := ?_) | (refine CW.seq ?_; intro K hK) | refine CW.block ?_ | refine CW.region ?_ | refine CW.skip ?_ | refine CW.exit ?_ | refine CW.ret ?_ | (refine thn_ret (K := K) ?_; clear hK K) | refine thn_ret ?_ | refine blk_ret ?_ | (refine thn_exit (K := K) ?_; clear hK K) | refine thn_exit ?_ | refine blk_here ?_ | refine blk_past rfl ?_ | refine thn_norm ?_ | refine blk_norm ?_ | refine CW.condT rfl ?_ | refine CW.condF rfl ?_ | (refine hK _ _ ?_; clear hK K))
    first | refine WL.step rfl ?_ | refine WL.gstep rfl rfl rfl rfl ?_
    refine OpW.loadAgg (uc (lb s)).toList rfl vs rfl rfl ?_
    repeat (first | refine WL.nil ?_ | refine WL.auto (h := ?_) | refine WL.gskip rfl rfl rfl rfl ?_ | refine WL.gauto (h := ?_) | (refine CW.seq ?_; intro K hK) | refine CW.block ?_ | refine CW.region ?_ | refine CW.skip ?_ | refine CW.exit ?_ | refine CW.ret ?_ | (refine thn_ret (K := K) ?_; clear hK K) | refine thn_ret ?_ | refine blk_ret ?_ | (refine thn_exit (K := K) ?_; clear hK K) | refine thn_exit ?_ | refine blk_here ?_ | refine blk_past rfl ?_ | refine thn_norm ?_ | refine blk_norm ?_ | refine CW.condT rfl ?_ | refine CW.condF rfl ?_ | (refine hK _ _ ?_; clear hK K))
    first | refine WL.step rfl ?_ | refine WL.gstep rfl rfl rfl rfl ?_
    refine OpW.loadAgg (uc (lb b)).toList rfl vb rfl rfl ?_
    repeat (first | refine WL.nil ?_ | refine WL.auto (h := ?_) | refine WL.gskip rfl rfl rfl rfl ?_ | refine WL.gauto (h := ?_) | (refine CW.seq ?_; intro K hK) | refine CW.block ?_ | refine CW.region ?_ | refine CW.skip ?_ | refine CW.exit ?_ | refine CW.ret ?_ | (refine thn_ret (K := K) ?_; clear hK K) | refine thn_ret ?_ | refine blk_ret ?_ | (refine thn_exit (K := K) ?_; clear hK K) | refine thn_exit ?_ | refine blk_here ?_ | refine blk_past rfl ?_ | refine thn_norm ?_ | refine blk_norm ?_ | refine CW.condT rfl ?_ | refine CW.condF rfl ?_ | (refine hK _ _ ?_; clear hK K))
    first | refine WL.step rfl ?_ | refine WL.gstep rfl rfl rfl rfl ?_
    refine OpW.call ((Sub20 s b sl hb w99).mono ?_) rfl
    rintro v w201 ⟨rfl, g201⟩
    rw [h1]
    replace va := va.grow g201
    replace vb := vb.grow g201
    replace vs := vs.grow g201
    replace vt := vt.grow g201
    replace G := G.then (g201)
    clear g201
    repeat (first | refine WL.nil ?_ | refine WL.auto (h := ?_) | refine WL.gskip rfl rfl rfl rfl ?_ | refine WL.gauto (h := ?_) | (refine CW.seq ?_; intro K hK) | refine CW.block ?_ | refine CW.region ?_ | refine CW.skip ?_ | refine CW.exit ?_ | refine CW.ret ?_ | (refine thn_ret (K := K) ?_; clear hK K) | refine thn_ret ?_ | refine blk_ret ?_ | (refine thn_exit (K := K) ?_; clear hK K) | refine thn_exit ?_ | refine blk_here ?_ | refine blk_past rfl ?_ | refine thn_norm ?_ | refine blk_norm ?_ | refine CW.condT rfl ?_ | refine CW.condF rfl ?_ | (refine hK _ _ ?_; clear hK K))
    first | refine WL.step rfl ?_ | refine WL.gstep rfl rfl rfl rfl ?_
    refine OpW.alloc (fun b_d w202 n202 => ?_)
    have z202 := n202.blk
    have f202 := n202.fresh
    have F202 := G.size
    have e202a : ¬ b_a = b_d := fun e => by have := va.lt; omega
    have e202b : ¬ b_b = b_d := fun e => by have := vb.lt; omega
    have e202s : ¬ b_s = b_d := fun e => by have := vs.lt; omega
    have e202t : ¬ b_t = b_d := fun e => by have := vt.lt; omega
    repeat (first | refine WL.nil ?_ | refine WL.auto (h := ?_) | refine WL.gskip rfl rfl rfl rfl ?_ | refine WL.gauto (h := ?_) | (refine CW.seq ?_; intro K hK) | refine CW.block ?_ | refine CW.region ?_ | refine CW.skip ?_ | refine CW.exit ?_ | refine CW.ret ?_ | (refine thn_ret (K := K) ?_; clear hK K) | refine thn_ret ?_ | refine blk_ret ?_ | (refine thn_exit (K := K) ?_; clear hK K) | refine thn_exit ?_ | refine blk_here ?_ | refine blk_past rfl ?_ | refine thn_norm ?_ | refine blk_norm ?_ | refine CW.condT rfl ?_ | refine CW.condF rfl ?_ | (refine hK _ _ ?_; clear hK K))
    refine WL.step0 ?_
    refine OpW.storeAll (d := uc (lb a)) rfl rfl rfl z202 rfl rfl (fun w203 p203 vd => ?_)
    replace va := (va.grow n202.grow).keep p203.chg e202a
    replace vb := (vb.grow n202.grow).keep p203.chg e202b
    replace vs := (vs.grow n202.grow).keep p203.chg e202s
    replace vt := (vt.grow n202.grow).keep p203.chg e202t
    replace G := (G.then n202.grow).chgNew p203.chg (fun i hi e => by omega)
    clear n202 z202 f202 F202 p203 e202a e202b e202s e202t
    repeat (first | refine WL.nil ?_ | refine WL.auto (h := ?_) | refine WL.gskip rfl rfl rfl rfl ?_ | refine WL.gauto (h := ?_) | (refine CW.seq ?_; intro K hK) | refine CW.block ?_ | refine CW.region ?_ | refine CW.skip ?_ | refine CW.exit ?_ | refine CW.ret ?_ | (refine thn_ret (K := K) ?_; clear hK K) | refine thn_ret ?_ | refine blk_ret ?_ | (refine thn_exit (K := K) ?_; clear hK K) | refine thn_exit ?_ | refine blk_here ?_ | refine blk_past rfl ?_ | refine thn_norm ?_ | refine blk_norm ?_ | refine CW.condT rfl ?_ | refine CW.condF rfl ?_ | (refine hK _ _ ?_; clear hK K))
    first | refine WL.step rfl ?_ | refine WL.gstep rfl rfl rfl rfl ?_
    refine OpW.loadAgg (uc (lb a)).toList rfl vd rfl rfl ?_
    repeat (first | refine WL.nil ?_ | refine WL.auto (h := ?_) | refine WL.gskip rfl rfl rfl rfl ?_ | refine WL.gauto (h := ?_) | (refine CW.seq ?_; intro K hK) | refine CW.block ?_ | refine CW.region ?_ | refine CW.skip ?_ | refine CW.exit ?_ | refine CW.ret ?_ | (refine thn_ret (K := K) ?_; clear hK K) | refine thn_ret ?_ | refine blk_ret ?_ | (refine thn_exit (K := K) ?_; clear hK K) | refine thn_exit ?_ | refine blk_here ?_ | refine blk_past rfl ?_ | refine thn_norm ?_ | refine blk_norm ?_ | refine CW.condT rfl ?_ | refine CW.condF rfl ?_ | (refine hK _ _ ?_; clear hK K))
    first | refine WL.step rfl ?_ | refine WL.gstep rfl rfl rfl rfl ?_
    refine OpW.loadAgg (uc (lb a)).toList rfl va rfl rfl ?_
    repeat (first | refine WL.nil ?_ | refine WL.auto (h := ?_) | refine WL.gskip rfl rfl rfl rfl ?_ | refine WL.gauto (h := ?_) | (refine CW.seq ?_; intro K hK) | refine CW.block ?_ | refine CW.region ?_ | refine CW.skip ?_ | refine CW.exit ?_ | refine CW.ret ?_ | (refine thn_ret (K := K) ?_; clear hK K) | refine thn_ret ?_ | refine blk_ret ?_ | (refine thn_exit (K := K) ?_; clear hK K) | refine thn_exit ?_ | refine blk_here ?_ | refine blk_past rfl ?_ | refine thn_norm ?_ | refine blk_norm ?_ | refine CW.condT rfl ?_ | refine CW.condF rfl ?_ | (refine hK _ _ ?_; clear hK K))
    first | refine WL.step rfl ?_ | refine WL.gstep rfl rfl rfl rfl ?_
    refine OpW.neqU (N := a) (M := a) rfl rfl ha ha ?_
    rw [decide_eq_false (fun h : ¬ a = a => h rfl)]
    repeat (first | refine WL.nil ?_ | refine WL.auto (h := ?_) | refine WL.gskip rfl rfl rfl rfl ?_ | refine WL.gauto (h := ?_) | (refine CW.seq ?_; intro K hK) | refine CW.block ?_ | refine CW.region ?_ | refine CW.skip ?_ | refine CW.exit ?_ | refine CW.ret ?_ | (refine thn_ret (K := K) ?_; clear hK K) | refine thn_ret ?_ | refine blk_ret ?_ | (refine thn_exit (K := K) ?_; clear hK K) | refine thn_exit ?_ | refine blk_here ?_ | refine blk_past rfl ?_ | refine thn_norm ?_ | refine blk_norm ?_ | refine CW.condT rfl ?_ | refine CW.condF rfl ?_ | (refine hK _ _ ?_; clear hK K))
    first | refine WL.step rfl ?_ | refine WL.gstep rfl rfl rfl rfl ?_
    refine OpW.loadAgg (uc (lb s)).toList rfl vs rfl rfl ?_
    repeat (first | refine WL.nil ?_ | refine WL.auto (h := ?_) | refine WL.gskip rfl rfl rfl rfl ?_ | refine WL.gauto (h := ?_) | (refine CW.seq ?_; intro K hK) | refine CW.block ?_ | refine CW.region ?_ | refine CW.skip ?_ | refine CW.exit ?_ | refine CW.ret ?_ | (refine thn_ret (K := K) ?_; clear hK K) | refine thn_ret ?_ | refine blk_ret ?_ | (refine thn_exit (K := K) ?_; clear hK K) | refine thn_exit ?_ | refine blk_here ?_ | refine blk_past rfl ?_ | refine thn_norm ?_ | refine blk_norm ?_ | refine CW.condT rfl ?_ | refine CW.condF rfl ?_ | (refine hK _ _ ?_; clear hK K))
    first | refine WL.step rfl ?_ | refine WL.gstep rfl rfl rfl rfl ?_
    refine OpW.loadAgg (uc (lb a)).toList rfl va rfl rfl ?_
    repeat (first | refine WL.nil ?_ | refine WL.auto (h := ?_) | refine WL.gskip rfl rfl rfl rfl ?_ | refine WL.gauto (h := ?_) | (refine CW.seq ?_; intro K hK) | refine CW.block ?_ | refine CW.region ?_ | refine CW.skip ?_ | refine CW.exit ?_ | refine CW.ret ?_ | (refine thn_ret (K := K) ?_; clear hK K) | refine thn_ret ?_ | refine blk_ret ?_ | (refine thn_exit (K := K) ?_; clear hK K) | refine thn_exit ?_ | refine blk_here ?_ | refine blk_past rfl ?_ | refine thn_norm ?_ | refine blk_norm ?_ | refine CW.condT rfl ?_ | refine CW.condF rfl ?_ | (refine hK _ _ ?_; clear hK K))
    first | refine WL.step rfl ?_ | refine WL.gstep rfl rfl rfl rfl ?_
    refine OpW.call ((Cmp11 s a sl ha _).mono ?_) rfl
    rintro v w300 ⟨rfl, g300⟩
    repeat (first | refine WL.nil ?_ | refine WL.auto (h := ?_) | refine WL.gskip rfl rfl rfl rfl ?_ | refine WL.gauto (h := ?_) | (refine CW.seq ?_; intro K hK) | refine CW.block ?_ | refine CW.region ?_ | refine CW.skip ?_ | refine CW.exit ?_ | refine CW.ret ?_ | (refine thn_ret (K := K) ?_; clear hK K) | refine thn_ret ?_ | refine blk_ret ?_ | (refine thn_exit (K := K) ?_; clear hK K) | refine thn_exit ?_ | refine blk_here ?_ | refine blk_past rfl ?_ | refine thn_norm ?_ | refine blk_norm ?_ | refine CW.condT rfl ?_ | refine CW.condF rfl ?_ | (refine hK _ _ ?_; clear hK K))
    rw [decide_eq_false h2]
    repeat (first | refine WL.nil ?_ | refine WL.auto (h := ?_) | refine WL.gskip rfl rfl rfl rfl ?_ | refine WL.gauto (h := ?_) | (refine CW.seq ?_; intro K hK) | refine CW.block ?_ | refine CW.region ?_ | refine CW.skip ?_ | refine CW.exit ?_ | refine CW.ret ?_ | (refine thn_ret (K := K) ?_; clear hK K) | refine thn_ret ?_ | refine blk_ret ?_ | (refine thn_exit (K := K) ?_; clear hK K) | refine thn_exit ?_ | refine blk_here ?_ | refine blk_past rfl ?_ | refine thn_norm ?_ | refine blk_norm ?_ | refine CW.condT rfl ?_ | refine CW.condF rfl ?_ | (refine hK _ _ ?_; clear hK K))
    exact K_of' (key w300 (G.then g300) (va.grow g300)) (rep2 rfl rfl)
  · repeat (first | refine WL.nil ?_ | refine WL.auto (h := ?_) | refine WL.gskip rfl rfl rfl rfl ?_ | refine WL.gauto (h := ?_) | (refine CW.seq ?_; intro K hK) | refine CW.block ?_ | refine CW.region ?_ | refine CW.skip ?_ | refine CW.exit ?_ | refine CW.ret ?_ | (refine thn_ret (K := K) ?_; clear hK K) | refine thn_ret ?_ | refine blk_ret ?_ | (refine thn_exit (K := K) ?_; clear hK K) | refine thn_exit ?_ | refine blk_here ?_ | refine blk_past rfl ?_ | refine thn_norm ?_ | refine blk_norm ?_ | refine CW.condT rfl ?_ | refine CW.condF rfl ?_ | (refine hK _ _ ?_; clear hK K))
    exact K_of' (key _ G va) (rep2 rfl rfl)
end B
end Go.Proofs.YtbcmmamipjbfpaaDoor
