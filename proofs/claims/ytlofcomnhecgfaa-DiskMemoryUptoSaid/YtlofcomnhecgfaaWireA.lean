/- What slices.Grow, slices.Concat and slices.Clone over bytes do. Sizes are bounded. -/
import Derived.Test.YtlofcomnhecgfaaInstTry
namespace Go.Proofs.Ytlofcomnhecgfaa
namespace B
attribute [local irreducible] OpW WL CW Ret Sl Blk thn blk outOf
set_option linter.unusedVariables false
set_option linter.unusedSimpArgs false

theorem grow99 (m : Nat) (w : World) (hm : m ≤ 70368744177664) : Ret Try.prog 99 #[.slice none 0 0, .int .i64 (m : Int)] w fun v w' => ∃ A cap, v = .slice A 0 cap ∧ Own w' A 5 1 0 cap [] (fresh w) ∧ Grow w w' := by
  refine Ret.enter (fn := Try.f99) (N := 27) Try.func99 rfl Try.ntmps99 rfl ?_
  repeat (first | refine WL.nil ?_ | refine WL.auto (h := ?_) | refine WL.gskip rfl rfl rfl rfl ?_ | refine WL.gauto (h := ?_) | (refine CW.seq ?_; intro K hK) | refine CW.block ?_ | refine CW.region ?_ | refine CW.skip ?_ | refine CW.exit ?_ | refine CW.ret ?_ | (refine thn_ret (K := K) ?_; clear hK K) | refine thn_ret ?_ | refine blk_ret ?_ | (refine thn_exit (K := K) ?_; clear hK K) | refine thn_exit ?_ | refine blk_here ?_ | refine blk_past rfl ?_ | refine thn_norm ?_ | refine blk_norm ?_ | refine CW.condT rfl ?_ | refine CW.condF rfl ?_ | (refine hK _ _ ?_; clear hK K))
  refine CW.condP rfl (fun h1 => ?_) (fun h1 => ?_)
  · repeat (first | refine WL.nil ?_ | refine WL.auto (h := ?_) | refine WL.gskip rfl rfl rfl rfl ?_ | refine WL.gauto (h := ?_) | (refine CW.seq ?_; intro K hK) | refine CW.block ?_ | refine CW.region ?_ | refine CW.skip ?_ | refine CW.exit ?_ | refine CW.ret ?_ | (refine thn_ret (K := K) ?_; clear hK K) | refine thn_ret ?_ | refine blk_ret ?_ | (refine thn_exit (K := K) ?_; clear hK K) | refine thn_exit ?_ | refine blk_here ?_ | refine blk_past rfl ?_ | refine thn_norm ?_ | refine blk_norm ?_ | refine CW.condT rfl ?_ | refine CW.condF rfl ?_ | (refine hK _ _ ?_; clear hK K))
    refine WL.step rfl (OpW.sliceHi 0 rfl rfl rfl (by omega) ?_)
    repeat (first | refine WL.nil ?_ | refine WL.auto (h := ?_) | refine WL.gskip rfl rfl rfl rfl ?_ | refine WL.gauto (h := ?_) | (refine CW.seq ?_; intro K hK) | refine CW.block ?_ | refine CW.region ?_ | refine CW.skip ?_ | refine CW.exit ?_ | refine CW.ret ?_ | (refine thn_ret (K := K) ?_; clear hK K) | refine thn_ret ?_ | refine blk_ret ?_ | (refine thn_exit (K := K) ?_; clear hK K) | refine thn_exit ?_ | refine blk_here ?_ | refine blk_past rfl ?_ | refine thn_norm ?_ | refine blk_norm ?_ | refine CW.condT rfl ?_ | refine CW.condF rfl ?_ | (refine hK _ _ ?_; clear hK K))
    refine WL.step rfl (OpW.appendMake (m := m) rfl (by show Value.int .i64 _ = _; congr 1) (by omega) ⟨by omega, by omega⟩ ?_)
    intro b cap' cur w1 h2 h3 h4 hn
    repeat (first | refine WL.nil ?_ | refine WL.auto (h := ?_) | refine WL.gskip rfl rfl rfl rfl ?_ | refine WL.gauto (h := ?_) | (refine CW.seq ?_; intro K hK) | refine CW.block ?_ | refine CW.region ?_ | refine CW.skip ?_ | refine CW.exit ?_ | refine CW.ret ?_ | (refine thn_ret (K := K) ?_; clear hK K) | refine thn_ret ?_ | refine blk_ret ?_ | (refine thn_exit (K := K) ?_; clear hK K) | refine thn_exit ?_ | refine blk_here ?_ | refine blk_past rfl ?_ | refine thn_norm ?_ | refine blk_norm ?_ | refine CW.condT rfl ?_ | refine CW.condF rfl ?_ | (refine hK _ _ ?_; clear hK K))
    refine WL.step rfl (OpW.sliceHi 0 rfl rfl rfl (by omega) ?_)
    repeat (first | refine WL.nil ?_ | refine WL.auto (h := ?_) | refine WL.gskip rfl rfl rfl rfl ?_ | refine WL.gauto (h := ?_) | (refine CW.seq ?_; intro K hK) | refine CW.block ?_ | refine CW.region ?_ | refine CW.skip ?_ | refine CW.exit ?_ | refine CW.ret ?_ | (refine thn_ret (K := K) ?_; clear hK K) | refine thn_ret ?_ | refine blk_ret ?_ | (refine thn_exit (K := K) ?_; clear hK K) | refine thn_exit ?_ | refine blk_here ?_ | refine blk_past rfl ?_ | refine thn_norm ?_ | refine blk_norm ?_ | refine CW.condT rfl ?_ | refine CW.condF rfl ?_ | (refine hK _ _ ?_; clear hK K))
    refine out1 Try.results99 rfl ?_ (Or.inr rfl)
    refine ⟨_, _, rfl, ⟨rfl, .inr ⟨b, cur, rfl, hn.fresh, hn.at_, by omega, h3, by omega, by simp⟩⟩, hn.grow⟩
  · repeat (first | refine WL.nil ?_ | refine WL.auto (h := ?_) | refine WL.gskip rfl rfl rfl rfl ?_ | refine WL.gauto (h := ?_) | (refine CW.seq ?_; intro K hK) | refine CW.block ?_ | refine CW.region ?_ | refine CW.skip ?_ | refine CW.exit ?_ | refine CW.ret ?_ | (refine thn_ret (K := K) ?_; clear hK K) | refine thn_ret ?_ | refine blk_ret ?_ | (refine thn_exit (K := K) ?_; clear hK K) | refine thn_exit ?_ | refine blk_here ?_ | refine blk_past rfl ?_ | refine thn_norm ?_ | refine blk_norm ?_ | refine CW.condT rfl ?_ | refine CW.condF rfl ?_ | (refine hK _ _ ?_; clear hK K))
    refine out1 Try.results99 rfl ?_ (Or.inr rfl)
    exact ⟨_, _, rfl, Own.nil _ _ _ _, Chg.refl _ _⟩

theorem clone73 (A : Option Addr) (cap : Nat) (l : List UInt8) (w : World) (hs : Sl w A (bvs l)) (hl : l.length ≤ 70368744177664) : Ret Try.prog 73 #[.slice A l.length cap] w fun v w' => NewBytes w w' v l := by
  refine Ret.enter (fn := Try.f73) (N := 8) Try.func73 rfl Try.ntmps73 rfl ?_
  cases A with
  | none =>
    have hnil : l = [] := by
      cases l with
      | nil => rfl
      | cons a l => unfold Sl at hs; obtain ⟨a', h1, _⟩ := hs 0 (bv a) (by simp [bvs]); cases h1
    subst hnil
    repeat (first | refine WL.nil ?_ | refine WL.auto (h := ?_) | refine WL.gskip rfl rfl rfl rfl ?_ | refine WL.gauto (h := ?_) | (refine CW.seq ?_; intro K hK) | refine CW.block ?_ | refine CW.region ?_ | refine CW.skip ?_ | refine CW.exit ?_ | refine CW.ret ?_ | (refine thn_ret (K := K) ?_; clear hK K) | refine thn_ret ?_ | refine blk_ret ?_ | (refine thn_exit (K := K) ?_; clear hK K) | refine thn_exit ?_ | refine blk_here ?_ | refine blk_past rfl ?_ | refine thn_norm ?_ | refine blk_norm ?_ | refine CW.condT rfl ?_ | refine CW.condF rfl ?_ | (refine hK _ _ ?_; clear hK K))
    refine out1 Try.results73 rfl ?_ (Or.inr rfl)
    exact ⟨_, _, rfl, Own.nil _ _ _ _, Chg.refl _ _⟩
  | some a =>
    repeat (first | refine WL.nil ?_ | refine WL.auto (h := ?_) | refine WL.gskip rfl rfl rfl rfl ?_ | refine WL.gauto (h := ?_) | (refine CW.seq ?_; intro K hK) | refine CW.block ?_ | refine CW.region ?_ | refine CW.skip ?_ | refine CW.exit ?_ | refine CW.ret ?_ | (refine thn_ret (K := K) ?_; clear hK K) | refine thn_ret ?_ | refine blk_ret ?_ | (refine thn_exit (K := K) ?_; clear hK K) | refine thn_exit ?_ | refine blk_here ?_ | refine blk_past rfl ?_ | refine thn_norm ?_ | refine blk_norm ?_ | refine CW.condT rfl ?_ | refine CW.condF rfl ?_ | (refine hK _ _ ?_; clear hK K))
    refine WL.step rfl (OpW.buildNone ?_)
    intro b w1 hn
    repeat (first | refine WL.nil ?_ | refine WL.auto (h := ?_) | refine WL.gskip rfl rfl rfl rfl ?_ | refine WL.gauto (h := ?_) | (refine CW.seq ?_; intro K hK) | refine CW.block ?_ | refine CW.region ?_ | refine CW.skip ?_ | refine CW.exit ?_ | refine CW.ret ?_ | (refine thn_ret (K := K) ?_; clear hK K) | refine thn_ret ?_ | refine blk_ret ?_ | (refine thn_exit (K := K) ?_; clear hK K) | refine thn_exit ?_ | refine blk_here ?_ | refine blk_past rfl ?_ | refine thn_norm ?_ | refine blk_norm ?_ | refine CW.condT rfl ?_ | refine CW.condF rfl ?_ | (refine hK _ _ ?_; clear hK K))
    refine WL.step rfl (OpW.append rfl rfl rfl (Own.empty hn) (hs.grow hn.grow) (bvs_len1 l) (bvs_one l) ⟨by omega, by omega⟩ ?_)
    intro A' cap' w2 ho hc _
    repeat (first | refine WL.nil ?_ | refine WL.auto (h := ?_) | refine WL.gskip rfl rfl rfl rfl ?_ | refine WL.gauto (h := ?_) | (refine CW.seq ?_; intro K hK) | refine CW.block ?_ | refine CW.region ?_ | refine CW.skip ?_ | refine CW.exit ?_ | refine CW.ret ?_ | (refine thn_ret (K := K) ?_; clear hK K) | refine thn_ret ?_ | refine blk_ret ?_ | (refine thn_exit (K := K) ?_; clear hK K) | refine thn_exit ?_ | refine blk_here ?_ | refine blk_past rfl ?_ | refine thn_norm ?_ | refine blk_norm ?_ | refine CW.condT rfl ?_ | refine CW.condF rfl ?_ | (refine hK _ _ ?_; clear hK K))
    refine out1 Try.results73 rfl ?_ (Or.inr rfl)
    rw [Nat.zero_add] at ho ⊢
    rw [List.nil_append] at ho
    refine ⟨_, _, rfl, ho.mono fun g hg => appZone_fresh (fun a ha => ?_) hn.grow.size g hg, Grow.chgNew hn.grow hc ?_⟩
    · cases ha; exact hn.fresh
    · rintro i hi ⟨a, ha, rfl⟩
      cases ha
      exact Nat.not_lt.2 hn.fresh hi

/-- Slices of bytes handed over as a list: their addresses, capacities, bytes. -/
abbrev Sls := List (Option Addr × Nat × List UInt8)
def slv (x : Option Addr × Nat × List UInt8) : Value := .slice x.1 x.2.2.length x.2.1
def flat (xs : Sls) : List UInt8 := xs.flatMap (·.2.2)
theorem flat_succ (xs : Sls) (k : Nat) (h : k < xs.length) : flat (xs.take (k + 1)) = flat (xs.take k) ++ xs[k].2.2 := by
  unfold flat
  rw [List.take_succ_eq_append_getElem h, List.flatMap_append]
  simp
theorem flat_le (xs : Sls) (k : Nat) : (flat (xs.take k)).length ≤ (flat xs).length := by
  have : flat xs = flat (xs.take k) ++ flat (xs.drop k) := by
    unfold flat; rw [← List.flatMap_append, List.take_append_drop]
  rw [this, List.length_append]; omega

theorem concat69 (A : Option Addr) (cap : Nat) (xs : Sls) (w : World) (hs : Sl w A (xs.map slv)) (hx : ∀ x ∈ xs, Sl w x.1 (bvs x.2.2)) (hn : xs.length ≤ 70368744177664) (hl : (flat xs).length ≤ 70368744177664) : Ret Try.prog 69 #[.slice A xs.length cap] w fun v w' => NewBytes w w' v (flat xs) := by
  refine Ret.enter (fn := Try.f69) (N := 36) Try.func69 rfl Try.ntmps69 rfl ?_
  repeat (first | refine WL.nil ?_ | refine WL.auto (h := ?_) | refine WL.gskip rfl rfl rfl rfl ?_ | refine WL.gauto (h := ?_) | (refine CW.seq ?_; intro K hK) | refine CW.block ?_ | refine CW.region ?_ | refine CW.skip ?_ | refine CW.exit ?_ | refine CW.ret ?_ | (refine thn_ret (K := K) ?_; clear hK K) | refine thn_ret ?_ | refine blk_ret ?_ | (refine thn_exit (K := K) ?_; clear hK K) | refine thn_exit ?_ | refine blk_here ?_ | refine blk_past rfl ?_ | refine thn_norm ?_ | refine blk_norm ?_ | refine CW.condT rfl ?_ | refine CW.condF rfl ?_ | (refine hK _ _ ?_; clear hK K))
  refine CW.loop (fun n e w' => ∃ k, k ≤ xs.length ∧ n = xs.length - k ∧ w' = w ∧ ∃ e0, e = upd (upd (upd (upd (upd e0 0 (.slice A xs.length cap)) 3 (.int .i64 (flat (xs.take k)).length)) 9 (.slice A xs.length cap)) 10 (.int .i64 xs.length)) 11 (.int .i64 k)) xs.length ?_ ?_
  · exact ⟨0, by omega, by omega, rfl, rep5 rfl rfl rfl rfl rfl⟩
  rintro n e w' ⟨k, hk, rfl, rfl, e0, rfl⟩ KJ hJ
  have hf := flat_le xs k
  repeat (first | refine WL.nil ?_ | refine WL.auto (h := ?_) | refine WL.gskip rfl rfl rfl rfl ?_ | refine WL.gauto (h := ?_) | (refine CW.seq ?_; intro K hK) | refine CW.block ?_ | refine CW.region ?_ | refine CW.skip ?_ | refine CW.exit ?_ | refine CW.ret ?_ | (refine thn_ret (K := K) ?_; clear hK K) | refine thn_ret ?_ | refine blk_ret ?_ | (refine thn_exit (K := K) ?_; clear hK K) | refine thn_exit ?_ | refine blk_here ?_ | refine blk_past rfl ?_ | refine thn_norm ?_ | refine blk_norm ?_ | refine CW.condT rfl ?_ | refine CW.condF rfl ?_ | (refine hK _ _ ?_; clear hK K))
  refine CW.condP rfl (fun h1 => ?_) (fun h1 => ?_)
  · have hlt : k < xs.length := by omega
    have hlm : k < (xs.map slv).length := by simpa using hlt
    have hf1 := flat_succ xs k hlt
    have hf2 := flat_le xs (k + 1)
    rw [hf1, List.length_append] at hf2
    repeat (first | refine WL.nil ?_ | refine WL.auto (h := ?_) | refine WL.gskip rfl rfl rfl rfl ?_ | refine WL.gauto (h := ?_) | (refine CW.seq ?_; intro K hK) | refine CW.block ?_ | refine CW.region ?_ | refine CW.skip ?_ | refine CW.exit ?_ | refine CW.ret ?_ | (refine thn_ret (K := K) ?_; clear hK K) | refine thn_ret ?_ | refine blk_ret ?_ | (refine thn_exit (K := K) ?_; clear hK K) | refine thn_exit ?_ | refine blk_here ?_ | refine blk_past rfl ?_ | refine thn_norm ?_ | refine blk_norm ?_ | refine CW.condT rfl ?_ | refine CW.condF rfl ?_ | (refine hK _ _ ?_; clear hK K))
    refine WL.step rfl (OpW.indexAddr k rfl rfl rfl hlt (sl_ne hs hlm) (sl_sp hs hlm) ?_)
    refine WL.step rfl (OpW.loadS (v := slv xs[k]) rfl hs (by simp [hlt]) ?_)
    repeat (first | refine WL.nil ?_ | refine WL.auto (h := ?_) | refine WL.gskip rfl rfl rfl rfl ?_ | refine WL.gauto (h := ?_) | (refine CW.seq ?_; intro K hK) | refine CW.block ?_ | refine CW.region ?_ | refine CW.skip ?_ | refine CW.exit ?_ | refine CW.ret ?_ | (refine thn_ret (K := K) ?_; clear hK K) | refine thn_ret ?_ | refine blk_ret ?_ | (refine thn_exit (K := K) ?_; clear hK K) | refine thn_exit ?_ | refine blk_here ?_ | refine blk_past rfl ?_ | refine thn_norm ?_ | refine blk_norm ?_ | refine CW.condT rfl ?_ | refine CW.condF rfl ?_ | (refine hK _ _ ?_; clear hK K))
    refine hJ (xs.length - (k + 1)) _ _ (by omega) ⟨k + 1, by omega, rfl, rfl, rep5 rfl (congrArg (Value.int .i64) ?_) rfl rfl rfl⟩
    rw [hf1, List.length_append, Int.natCast_add]
  · have hkk : k = xs.length := by omega
    subst hkk
    rw [List.take_length]
    repeat (first | refine WL.nil ?_ | refine WL.auto (h := ?_) | refine WL.gskip rfl rfl rfl rfl ?_ | refine WL.gauto (h := ?_) | (refine CW.seq ?_; intro K hK) | refine CW.block ?_ | refine CW.region ?_ | refine CW.skip ?_ | refine CW.exit ?_ | refine CW.ret ?_ | (refine thn_ret (K := K) ?_; clear hK K) | refine thn_ret ?_ | refine blk_ret ?_ | (refine thn_exit (K := K) ?_; clear hK K) | refine thn_exit ?_ | refine blk_here ?_ | refine blk_past rfl ?_ | refine thn_norm ?_ | refine blk_norm ?_ | refine CW.condT rfl ?_ | refine CW.condF rfl ?_ | (refine hK _ _ ?_; clear hK K))
    refine WL.step rfl ?_
    refine OpW.call ((grow99 _ _ hl).mono ?_) rfl
    rintro v w1 ⟨A1, cap1, rfl, ho1, hg1⟩
    repeat (first | refine WL.nil ?_ | refine WL.auto (h := ?_) | refine WL.gskip rfl rfl rfl rfl ?_ | refine WL.gauto (h := ?_) | (refine CW.seq ?_; intro K hK) | refine CW.block ?_ | refine CW.region ?_ | refine CW.skip ?_ | refine CW.exit ?_ | refine CW.ret ?_ | (refine thn_ret (K := K) ?_; clear hK K) | refine thn_ret ?_ | refine blk_ret ?_ | (refine thn_exit (K := K) ?_; clear hK K) | refine thn_exit ?_ | refine blk_here ?_ | refine blk_past rfl ?_ | refine thn_norm ?_ | refine blk_norm ?_ | refine CW.condT rfl ?_ | refine CW.condF rfl ?_ | (refine hK _ _ ?_; clear hK K))
    refine CW.loop (fun n e w2 => ∃ k, k ≤ xs.length ∧ n = xs.length - k ∧ ∃ A2 cap2, Own w2 A2 5 1 (flat (xs.take k)).length cap2 (bvs (flat (xs.take k))) (fresh w') ∧ Grow w' w2 ∧ ∃ e0, e = upd (upd (upd (upd (upd e0 0 (.slice A xs.length cap)) 6 (.slice A2 (flat (xs.take k)).length cap2)) 25 (.slice A xs.length cap)) 26 (.int .i64 xs.length)) 27 (.int .i64 k)) xs.length ?_ ?_
    · exact ⟨0, by omega, by omega, A1, cap1, ho1, hg1, rep5 rfl rfl rfl rfl rfl⟩
    clear ho1 hg1 e0
    rintro n e w2 ⟨k, hk, rfl, A2, cap2, ho2, hg2, e0, rfl⟩ KJ hJ
    have hf := flat_le xs k
    repeat (first | refine WL.nil ?_ | refine WL.auto (h := ?_) | refine WL.gskip rfl rfl rfl rfl ?_ | refine WL.gauto (h := ?_) | (refine CW.seq ?_; intro K hK) | refine CW.block ?_ | refine CW.region ?_ | refine CW.skip ?_ | refine CW.exit ?_ | refine CW.ret ?_ | (refine thn_ret (K := K) ?_; clear hK K) | refine thn_ret ?_ | refine blk_ret ?_ | (refine thn_exit (K := K) ?_; clear hK K) | refine thn_exit ?_ | refine blk_here ?_ | refine blk_past rfl ?_ | refine thn_norm ?_ | refine blk_norm ?_ | refine CW.condT rfl ?_ | refine CW.condF rfl ?_ | (refine hK _ _ ?_; clear hK K))
    refine CW.condP rfl (fun h1 => ?_) (fun h1 => ?_)
    · have hlt : k < xs.length := by omega
      have hlm : k < (xs.map slv).length := by simpa using hlt
      have hf1 := flat_succ xs k hlt
      have hf2 := flat_le xs (k + 1)
      rw [hf1, List.length_append] at hf2
      repeat (first | refine WL.nil ?_ | refine WL.auto (h := ?_) | refine WL.gskip rfl rfl rfl rfl ?_ | refine WL.gauto (h := ?_) | (refine CW.seq ?_; intro K hK) | refine CW.block ?_ | refine CW.region ?_ | refine CW.skip ?_ | refine CW.exit ?_ | refine CW.ret ?_ | (refine thn_ret (K := K) ?_; clear hK K) | refine thn_ret ?_ | refine blk_ret ?_ | (refine thn_exit (K := K) ?_; clear hK K) | refine thn_exit ?_ | refine blk_here ?_ | refine blk_past rfl ?_ | refine thn_norm ?_ | refine blk_norm ?_ | refine CW.condT rfl ?_ | refine CW.condF rfl ?_ | (refine hK _ _ ?_; clear hK K))
      refine WL.step rfl (OpW.indexAddr k rfl rfl rfl hlt (sl_ne hs hlm) (sl_sp hs hlm) ?_)
      refine WL.step rfl (OpW.loadS (v := slv xs[k]) rfl (hs.grow hg2) (by simp [hlt]) ?_)
      repeat (first | refine WL.nil ?_ | refine WL.auto (h := ?_) | refine WL.gskip rfl rfl rfl rfl ?_ | refine WL.gauto (h := ?_) | (refine CW.seq ?_; intro K hK) | refine CW.block ?_ | refine CW.region ?_ | refine CW.skip ?_ | refine CW.exit ?_ | refine CW.ret ?_ | (refine thn_ret (K := K) ?_; clear hK K) | refine thn_ret ?_ | refine blk_ret ?_ | (refine thn_exit (K := K) ?_; clear hK K) | refine thn_exit ?_ | refine blk_here ?_ | refine blk_past rfl ?_ | refine thn_norm ?_ | refine blk_norm ?_ | refine CW.condT rfl ?_ | refine CW.condF rfl ?_ | (refine hK _ _ ?_; clear hK K))
      refine WL.step rfl (OpW.append rfl rfl rfl ho2 ((hx _ (List.getElem_mem hlt)).grow hg2) (bvs_len1 _) (bvs_one _) ⟨by omega, by omega⟩ ?_)
      intro A3 cap3 w3 ho3 hc3 _
      repeat (first | refine WL.nil ?_ | refine WL.auto (h := ?_) | refine WL.gskip rfl rfl rfl rfl ?_ | refine WL.gauto (h := ?_) | (refine CW.seq ?_; intro K hK) | refine CW.block ?_ | refine CW.region ?_ | refine CW.skip ?_ | refine CW.exit ?_ | refine CW.ret ?_ | (refine thn_ret (K := K) ?_; clear hK K) | refine thn_ret ?_ | refine blk_ret ?_ | (refine thn_exit (K := K) ?_; clear hK K) | refine thn_exit ?_ | refine blk_here ?_ | refine blk_past rfl ?_ | refine thn_norm ?_ | refine blk_norm ?_ | refine CW.condT rfl ?_ | refine CW.condF rfl ?_ | (refine hK _ _ ?_; clear hK K))
      have hz : ∀ g, ((∃ a, A2 = some a ∧ a.block = g) ∨ w2.heap.size ≤ g) → fresh w' g := fun g hg => appZone_fresh (fun a ha => (ho2.in_ ha).1) hg2.size g hg
      refine hJ (xs.length - (k + 1)) _ _ (by omega) ⟨k + 1, by omega, rfl, A3, cap3, ?_, Grow.chgNew hg2 hc3 ?_, rep5 rfl ?_ rfl rfl rfl⟩
      · rw [hf1, bvs_append, List.length_append]; exact ho3.mono hz
      · rintro i hi ⟨a, ha, rfl⟩
        exact Nat.not_lt.2 (ho2.in_ ha).1 hi
      · rw [hf1, List.length_append]; rfl
    · have hkk : k = xs.length := by omega
      subst hkk
      rw [List.take_length] at *
      repeat (first | refine WL.nil ?_ | refine WL.auto (h := ?_) | refine WL.gskip rfl rfl rfl rfl ?_ | refine WL.gauto (h := ?_) | (refine CW.seq ?_; intro K hK) | refine CW.block ?_ | refine CW.region ?_ | refine CW.skip ?_ | refine CW.exit ?_ | refine CW.ret ?_ | (refine thn_ret (K := K) ?_; clear hK K) | refine thn_ret ?_ | refine blk_ret ?_ | (refine thn_exit (K := K) ?_; clear hK K) | refine thn_exit ?_ | refine blk_here ?_ | refine blk_past rfl ?_ | refine thn_norm ?_ | refine blk_norm ?_ | refine CW.condT rfl ?_ | refine CW.condF rfl ?_ | (refine hK _ _ ?_; clear hK K))
      refine out1 Try.results69 rfl ?_ (Or.inr rfl)
      exact ⟨_, _, rfl, ho2, hg2⟩
end B
end Go.Proofs.Ytlofcomnhecgfaa
