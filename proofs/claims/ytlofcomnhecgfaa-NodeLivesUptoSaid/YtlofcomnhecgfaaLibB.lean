/- Rules and contracts, put together out of smaller texts. Each part tells its conditions. -/
import Derived.Test.YtlofcomnhecgfaaRows
import Derived.ProofKit
import Derived.Carry
import Derived.Laws.CopyRow
import Derived.Test.YtlofcomnhecgfaaLibA
/- What slices.Grow, slices.Concat and slices.Clone over bytes do. Sizes are bounded. -/
namespace Go.Proofs.Ytlofcomnhecgfaa
namespace B
attribute [local irreducible] OpW WL CW Ret Sl Blk thn blk outOf
set_option linter.unusedVariables false
set_option linter.unusedSimpArgs false

theorem grow99 (m : Nat) (w : World) (hm : m ≤ 70368744177664) : Ret Try.prog 99 #[.slice none 0 0, .int .i64 (m : Int)] w fun v w' => ∃ A cap, v = .slice A 0 cap ∧ Own w' A 5 1 0 cap [] (fresh w) ∧ Grow w w' := by
  refine Ret.enter (fn := Try.f99) (N := 27) Try.func99 rfl Try.ntmps99 rfl ?_
  repeat (first | refine WL.nil ?_ | refine WL.auto (h := ?_) | refine WL.gskip rfl rfl rfl rfl ?_ | refine WL.gauto (h := ?_) | (refine CW.seq ?_; intro K hK) | refine CW.block ?_ | refine CW.region ?_ | refine CW.skip ?_ | refine CW.exit ?_ | refine CW.ret ?_ | (refine thn_ret (K := K) ?_; clear hK K) | refine thn_ret ?_ | refine blk_ret ?_ | (refine thn_exit (K := K) ?_; clear hK K) | refine thn_exit ?_ | refine blk_here ?_ | refine blk_past rfl ?_ | refine thn_norm ?_ | refine blk_norm ?_ | refine CW.condT rfl ?_ | refine CW.condF rfl ?_ | (refine hK _ _ ?_; clear hK K))
  refine CW.condP rfl (fun h1 => ?_) (fun h1 => ?_)
  · repeat (first | refine WL.nil ?_ | refine WL.auto (h := ?_) | refine WL.gskip rfl rfl rfl rfl ?_ | refine WL.gauto (h := ?_) | (refine CW.seq ?_; intro K hK) | refine CW.block ?_ | refine CW.region ?_ | refine CW.skip ?_ | refine CW.exit ?_ | refine CW.ret ?_ | (refine thn_ret (K := K) ?_; clear hK K) | refine thn_ret ?_ | refine blk_ret ?_ | (refine thn_exit (K := K) ?_; clear hK K) | refine thn_exit ?_ | refine blk_here ?_ | refine blk_past rfl ?_ | refine thn_norm ?_ | refine blk_norm ?_ | refine CW.condT rfl ?_ | refine CW.condF rfl ?_ | (refine hK _ _ ?_; clear hK K))
    refine WL.step rfl (OpW.sliceHi 0 rfl rfl rfl (by omega) ?_)
    repeat (first | refine WL.nil ?_ | refine WL.auto (h := ?_) | refine WL.gskip rfl rfl rfl rfl ?_ | refine WL.gauto (h := ?_) | (refine CW.seq ?_; intro K hK) | refine CW.block ?_ | refine CW.region ?_ | refine CW.skip ?_ | refine CW.exit ?_ | refine CW.ret ?_ | (refine thn_ret (K := K) ?_; clear hK K) | refine thn_ret ?_ | refine blk_ret ?_ | (refine thn_exit (K := K) ?_; clear hK K) | refine thn_exit ?_ | refine blk_here ?_ | refine blk_past rfl ?_ | refine thn_norm ?_ | refine blk_norm ?_ | refine CW.condT rfl ?_ | refine CW.condF rfl ?_ | (refine hK _ _ ?_; clear hK K))
    refine WL.step rfl (OpW.appendMake (m := m) rfl (by show Value.int .i64 _ = _; congr 1) (by omega) ⟨by omega, by omega⟩ ?_)
    intro b cap' cur w1 h2 h3 h4 hn
    repeat (first | refine WL.nil ?_ | refine WL.auto (h := ?_) | refine WL.gskip rfl rfl rfl rfl ?_ | refine WL.gauto (h := ?_) | (refine CW.seq ?_; intro K hK) | refine CW.block ?_ | refine CW.region ?_ | refine CW.skip ?_ | refine CW.exit ?_ | refine CW.ret ?_ | (refine thn_ret (K := K) ?_; clear hK K) | refine thn_ret ?_ | refine blk_ret ?_ | (refine thn_exit (K := K) ?_; clear hK K) | refine thn_exit ?_ | refine blk_here ?_ | refine blk_past rfl ?_ | refine thn_norm ?_ | refine blk_norm ?_ | refine CW.condT rfl ?_ | refine CW.condF rfl ?_ | (refine hK _ _ ?_; clear hK K))
    refine WL.step rfl (OpW.sliceHi 0 rfl rfl rfl (by omega) ?_)
    repeat (first | refine WL.nil ?_ | refine WL.auto (h := ?_) | refine WL.gskip rfl rfl rfl rfl ?_ | refine WL.gauto (h := ?_) | (refine CW.seq ?_; intro K hK) | refine CW.block ?_ | refine CW.region ?_ | refine CW.skip ?_ | refine CW.exit ?_ | refine CW.ret ?_ | (refine thn_ret (K := K) ?_; clear hK K) | refine thn_ret ?_ | refine blk_ret ?_ | (refine thn_exit (K := K) ?_; clear hK K) | refine thn_exit ?_ | refine blk_here ?_ | refine blk_past rfl ?_ | refine thn_norm ?_ | refine blk_norm ?_ | refine CW.condT rfl ?_ | refine CW.condF rfl ?_ | (refine hK _ _ ?_; clear hK K))
    refine out1 Try.results99 rfl ?_ (Or.inr rfl)
    refine ⟨_, _, rfl, ⟨rfl, .inr ⟨b, cur, rfl, hn.fresh, hn.at_, by omega, h3, by omega, by simp⟩⟩, hn.grow⟩
  · repeat (first | refine WL.nil ?_ | refine WL.auto (h := ?_) | refine WL.gskip rfl rfl rfl rfl ?_ | refine WL.gauto (h := ?_) | (refine CW.seq ?_; intro K hK) | refine CW.block ?_ | refine CW.region ?_ | refine CW.skip ?_ | refine CW.exit ?_ | refine CW.ret ?_ | (refine thn_ret (K := K) ?_; clear hK K) | refine thn_ret ?_ | refine blk_ret ?_ | (refine thn_exit (K := K) ?_; clear hK K) | refine thn_exit ?_ | refine blk_here ?_ | refine blk_past rfl ?_ | refine thn_norm ?_ | refine blk_norm ?_ | refine CW.condT rfl ?_ | refine CW.condF rfl ?_ | (refine hK _ _ ?_; clear hK K))
    refine out1 Try.results99 rfl ?_ (Or.inr rfl)
    exact ⟨_, _, rfl, Own.nil _ _ _ _, Chg.refl _ _⟩

theorem clone73 (A : Option Addr) (cap : Nat) (l : List UInt8) (w : World) (hs : Sl w A (bvs l)) (hl : l.length ≤ 70368744177664) : Ret Try.prog 73 #[.slice A l.length cap] w fun v w' => NewBytes w w' v l := by
  refine Ret.enter (fn := Try.f73) (N := 8) Try.func73 rfl Try.ntmps73 rfl ?_
  cases A with
  | none =>
    have hnil : l = [] := by
      cases l with
      | nil => rfl
      | cons a l => unfold Sl at hs; obtain ⟨a', h1, _⟩ := hs 0 (bv a) (by simp [bvs]); cases h1
    subst hnil
    repeat (first | refine WL.nil ?_ | refine WL.auto (h := ?_) | refine WL.gskip rfl rfl rfl rfl ?_ | refine WL.gauto (h := ?_) | (refine CW.seq ?_; intro K hK) | refine CW.block ?_ | refine CW.region ?_ | refine CW.skip ?_ | refine CW.exit ?_ | refine CW.ret ?_ | (refine thn_ret (K := K) ?_; clear hK K) | refine thn_ret ?_ | refine blk_ret ?_ | (refine thn_exit (K := K) ?_; clear hK K) | refine thn_exit ?_ | refine blk_here ?_ | refine blk_past rfl ?_ | refine thn_norm ?_ | refine blk_norm ?_ | refine CW.condT rfl ?_ | refine CW.condF rfl ?_ | (refine hK _ _ ?_; clear hK K))
    refine out1 Try.results73 rfl ?_ (Or.inr rfl)
    exact ⟨_, _, rfl, Own.nil _ _ _ _, Chg.refl _ _⟩
  | some a =>
    repeat (first | refine WL.nil ?_ | refine WL.auto (h := ?_) | refine WL.gskip rfl rfl rfl rfl ?_ | refine WL.gauto (h := ?_) | (refine CW.seq ?_; intro K hK) | refine CW.block ?_ | refine CW.region ?_ | refine CW.skip ?_ | refine CW.exit ?_ | refine CW.ret ?_ | (refine thn_ret (K := K) ?_; clear hK K) | refine thn_ret ?_ | refine blk_ret ?_ | (refine thn_exit (K := K) ?_; clear hK K) | refine thn_exit ?_ | refine blk_here ?_ | refine blk_past rfl ?_ | refine thn_norm ?_ | refine blk_norm ?_ | refine CW.condT rfl ?_ | refine CW.condF rfl ?_ | (refine hK _ _ ?_; clear hK K))
    refine WL.step rfl (OpW.buildNone ?_)
    intro b w1 hn
    repeat (first | refine WL.nil ?_ | refine WL.auto (h := ?_) | refine WL.gskip rfl rfl rfl rfl ?_ | refine WL.gauto (h := ?_) | (refine CW.seq ?_; intro K hK) | refine CW.block ?_ | refine CW.region ?_ | refine CW.skip ?_ | refine CW.exit ?_ | refine CW.ret ?_ | (refine thn_ret (K := K) ?_; clear hK K) | refine thn_ret ?_ | refine blk_ret ?_ | (refine thn_exit (K := K) ?_; clear hK K) | refine thn_exit ?_ | refine blk_here ?_ | refine blk_past rfl ?_ | refine thn_norm ?_ | refine blk_norm ?_ | refine CW.condT rfl ?_ | refine CW.condF rfl ?_ | (refine hK _ _ ?_; clear hK K))
    refine WL.step rfl (OpW.append rfl rfl rfl (Own.empty hn) (hs.grow hn.grow) (bvs_len1 l) (bvs_one l) ⟨by omega, by omega⟩ ?_)
    intro A' cap' w2 ho hc _
    repeat (first | refine WL.nil ?_ | refine WL.auto (h := ?_) | refine WL.gskip rfl rfl rfl rfl ?_ | refine WL.gauto (h := ?_) | (refine CW.seq ?_; intro K hK) | refine CW.block ?_ | refine CW.region ?_ | refine CW.skip ?_ | refine CW.exit ?_ | refine CW.ret ?_ | (refine thn_ret (K := K) ?_; clear hK K) | refine thn_ret ?_ | refine blk_ret ?_ | (refine thn_exit (K := K) ?_; clear hK K) | refine thn_exit ?_ | refine blk_here ?_ | refine blk_past rfl ?_ | refine thn_norm ?_ | refine blk_norm ?_ | refine CW.condT rfl ?_ | refine CW.condF rfl ?_ | (refine hK _ _ ?_; clear hK K))
    refine out1 Try.results73 rfl ?_ (Or.inr rfl)
    rw [Nat.zero_add] at ho ⊢
    rw [List.nil_append] at ho
    refine ⟨_, _, rfl, ho.mono fun g hg => appZone_fresh (fun a ha => ?_) hn.grow.size g hg, Grow.chgNew hn.grow hc ?_⟩
    · cases ha; exact hn.fresh
    · rintro i hi ⟨a, ha, rfl⟩
      cases ha
      exact Nat.not_lt.2 hn.fresh hi

/-- Slices of bytes handed over as a list: their addresses, capacities, bytes. -/
abbrev Sls := List (Option Addr × Nat × List UInt8)
def slv (x : Option Addr × Nat × List UInt8) : Value := .slice x.1 x.2.2.length x.2.1
def flat (xs : Sls) : List UInt8 := xs.flatMap (·.2.2)
theorem flat_succ (xs : Sls) (k : Nat) (h : k < xs.length) : flat (xs.take (k + 1)) = flat (xs.take k) ++ xs[k].2.2 := by
  unfold flat
  rw [List.take_succ_eq_append_getElem h, List.flatMap_append]
  simp
theorem flat_le (xs : Sls) (k : Nat) : (flat (xs.take k)).length ≤ (flat xs).length := by
  have : flat xs = flat (xs.take k) ++ flat (xs.drop k) := by
    unfold flat; rw [← List.flatMap_append, List.take_append_drop]
  rw [this, List.length_append]; omega

theorem concat69 (A : Option Addr) (cap : Nat) (xs : Sls) (w : World) (hs : Sl w A (xs.map slv)) (hx : ∀ x ∈ xs, Sl w x.1 (bvs x.2.2)) (hn : xs.length ≤ 70368744177664) (hl : (flat xs).length ≤ 70368744177664) : Ret Try.prog 69 #[.slice A xs.length cap] w fun v w' => NewBytes w w' v (flat xs) := by
  refine Ret.enter (fn := Try.f69) (N := 36) Try.func69 rfl Try.ntmps69 rfl ?_
  repeat (first | refine WL.nil ?_ | refine WL.auto (h := ?_) | refine WL.gskip rfl rfl rfl rfl ?_ | refine WL.gauto (h := ?_) | (refine CW.seq ?_; intro K hK) | refine CW.block ?_ | refine CW.region ?_ | refine CW.skip ?_ | refine CW.exit ?_ | refine CW.ret ?_ | (refine thn_ret (K := K) ?_; clear hK K) | refine thn_ret ?_ | refine blk_ret ?_ | (refine thn_exit (K := K) ?_; clear hK K) | refine thn_exit ?_ | refine blk_here ?_ | refine blk_past rfl ?_ | refine thn_norm ?_ | refine blk_norm ?_ | refine CW.condT rfl ?_ | refine CW.condF rfl ?_ | (refine hK _ _ ?_; clear hK K))
  refine CW.loop (fun n e w' => ∃ k, k ≤ xs.length ∧ n = xs.length - k ∧ w' = w ∧ ∃ e0, e = upd (upd (upd (upd (upd e0 0 (.slice A xs.length cap)) 3 (.int .i64 (flat (xs.take k)).length)) 9 (.slice A xs.length cap)) 10 (.int .i64 xs.length)) 11 (.int .i64 k)) xs.length ?_ ?_
  · exact ⟨0, by omega, by omega, rfl, rep5 rfl rfl rfl rfl rfl⟩
  rintro n e w' ⟨k, hk, rfl, rfl, e0, rfl⟩ KJ hJ
  have hf := flat_le xs k
  repeat (first | refine WL.nil ?_ | refine WL.auto (h := ?_) | refine WL.gskip rfl rfl rfl rfl ?_ | refine WL.gauto (h := ?_) | (refine CW.seq ?_; intro K hK) | refine CW.block ?_ | refine CW.region ?_ | refine CW.skip ?_ | refine CW.exit ?_ | refine CW.ret ?_ | (refine thn_ret (K := K) ?_; clear hK K) | refine thn_ret ?_ | refine blk_ret ?_ | (refine thn_exit (K := K) ?_; clear hK K) | refine thn_exit ?_ | refine blk_here ?_ | refine blk_past rfl ?_ | refine thn_norm ?_ | refine blk_norm ?_ | refine CW.condT rfl ?_ | refine CW.condF rfl ?_ | (refine hK _ _ ?_; clear hK K))
  refine CW.condP rfl (fun h1 => ?_) (fun h1 => ?_)
  · have hlt : k < xs.length := by omega
    have hlm : k < (xs.map slv).length := by simpa using hlt
    have hf1 := flat_succ xs k hlt
    have hf2 := flat_le xs (k + 1)
    rw [hf1, List.length_append] at hf2
    repeat (first | refine WL.nil ?_ | refine WL.auto (h := ?_) | refine WL.gskip rfl rfl rfl rfl ?_ | refine WL.gauto (h := ?_) | (refine CW.seq ?_; intro K hK) | refine CW.block ?_ | refine CW.region ?_ | refine CW.skip ?_ | refine CW.exit ?_ | refine CW.ret ?_ | (refine thn_ret (K := K) ?_; clear hK K) | refine thn_ret ?_ | refine blk_ret ?_ | (refine thn_exit (K := K) ?_; clear hK K) | refine thn_exit ?_ | refine blk_here ?_ | refine blk_past rfl ?_ | refine thn_norm ?_ | refine blk_norm ?_ | refine CW.condT rfl ?_ | refine CW.condF rfl ?_ | (refine hK _ _ ?_; clear hK K))
    refine WL.step rfl (OpW.indexAddr k rfl rfl rfl hlt (sl_ne hs hlm) (sl_sp hs hlm) ?_)
    refine WL.step rfl (OpW.loadS (v := slv xs[k]) rfl hs (by simp [hlt]) ?_)
    repeat (first | refine WL.nil ?_ | refine WL.auto (h := ?_) | refine WL.gskip rfl rfl rfl rfl ?_ | refine WL.gauto (h := ?_) | (refine CW.seq ?_; intro K hK) | refine CW.block ?_ | refine CW.region ?_ | refine CW.skip ?_ | refine CW.exit ?_ | refine CW.ret ?_ | (refine thn_ret (K := K) ?_; clear hK K) | refine thn_ret ?_ | refine blk_ret ?_ | (refine thn_exit (K := K) ?_; clear hK K) | refine thn_exit ?_ | refine blk_here ?_ | refine blk_past rfl ?_ | refine thn_norm ?_ | refine blk_norm ?_ | refine CW.condT rfl ?_ | refine CW.condF rfl ?_ | (refine hK _ _ ?_; clear hK K))
    refine hJ (xs.length - (k + 1)) _ _ (by omega) ⟨k + 1, by omega, rfl, rfl, rep5 rfl (congrArg (Value.int .i64) ?_) rfl rfl rfl⟩
    rw [hf1, List.length_append, Int.natCast_add]
  · have hkk : k = xs.length := by omega
    subst hkk
    rw [List.take_length]
    repeat (first | refine WL.nil ?_ | refine WL.auto (h := ?_) | refine WL.gskip rfl rfl rfl rfl ?_ | refine WL.gauto (h := ?_) | (refine CW.seq ?_; intro K hK) | refine CW.block ?_ | refine CW.region ?_ | refine CW.skip ?_ | refine CW.exit ?_ | refine CW.ret ?_ | (refine thn_ret (K := K) ?_; clear hK K) | refine thn_ret ?_ | refine blk_ret ?_ | (refine thn_exit (K := K) ?_; clear hK K) | refine thn_exit ?_ | refine blk_here ?_ | refine blk_past rfl ?_ | refine thn_norm ?_ | refine blk_norm ?_ | refine CW.condT rfl ?_ | refine CW.condF rfl ?_ | (refine hK _ _ ?_; clear hK K))
    refine WL.step rfl ?_
    refine OpW.call ((grow99 _ _ hl).mono ?_) rfl
    rintro v w1 ⟨A1, cap1, rfl, ho1, hg1⟩
    repeat (first | refine WL.nil ?_ | refine WL.auto (h := ?_) | refine WL.gskip rfl rfl rfl rfl ?_ | refine WL.gauto (h := ?_) | (refine CW.seq ?_; intro K hK) | refine CW.block ?_ | refine CW.region ?_ | refine CW.skip ?_ | refine CW.exit ?_ | refine CW.ret ?_ | (refine thn_ret (K := K) ?_; clear hK K) | refine thn_ret ?_ | refine blk_ret ?_ | (refine thn_exit (K := K) ?_; clear hK K) | refine thn_exit ?_ | refine blk_here ?_ | refine blk_past rfl ?_ | refine thn_norm ?_ | refine blk_norm ?_ | refine CW.condT rfl ?_ | refine CW.condF rfl ?_ | (refine hK _ _ ?_; clear hK K))
    refine CW.loop (fun n e w2 => ∃ k, k ≤ xs.length ∧ n = xs.length - k ∧ ∃ A2 cap2, Own w2 A2 5 1 (flat (xs.take k)).length cap2 (bvs (flat (xs.take k))) (fresh w') ∧ Grow w' w2 ∧ ∃ e0, e = upd (upd (upd (upd (upd e0 0 (.slice A xs.length cap)) 6 (.slice A2 (flat (xs.take k)).length cap2)) 25 (.slice A xs.length cap)) 26 (.int .i64 xs.length)) 27 (.int .i64 k)) xs.length ?_ ?_
    · exact ⟨0, by omega, by omega, A1, cap1, ho1, hg1, rep5 rfl rfl rfl rfl rfl⟩
    clear ho1 hg1 e0
    rintro n e w2 ⟨k, hk, rfl, A2, cap2, ho2, hg2, e0, rfl⟩ KJ hJ
    have hf := flat_le xs k
    repeat (first | refine WL.nil ?_ | refine WL.auto (h := ?_) | refine WL.gskip rfl rfl rfl rfl ?_ | refine WL.gauto (h := ?_) | (refine CW.seq ?_; intro K hK) | refine CW.block ?_ | refine CW.region ?_ | refine CW.skip ?_ | refine CW.exit ?_ | refine CW.ret ?_ | (refine thn_ret (K := K) ?_; clear hK K) | refine thn_ret ?_ | refine blk_ret ?_ | (refine thn_exit (K := K) ?_; clear hK K) | refine thn_exit ?_ | refine blk_here ?_ | refine blk_past rfl ?_ | refine thn_norm ?_ | refine blk_norm ?_ | refine CW.condT rfl ?_ | refine CW.condF rfl ?_ | (refine hK _ _ ?_; clear hK K))
    refine CW.condP rfl (fun h1 => ?_) (fun h1 => ?_)
    · have hlt : k < xs.length := by omega
      have hlm : k < (xs.map slv).length := by simpa using hlt
      have hf1 := flat_succ xs k hlt
      have hf2 := flat_le xs (k + 1)
      rw [hf1, List.length_append] at hf2
      repeat (first | refine WL.nil ?_ | refine WL.auto (h := ?_) | refine WL.gskip rfl rfl rfl rfl ?_ | refine WL.gauto (h := ?_) | (refine CW.seq ?_; intro K hK) | refine CW.block ?_ | refine CW.region ?_ | refine CW.skip ?_ | refine CW.exit ?_ | refine CW.ret ?_ | (refine thn_ret (K := K) ?_; clear hK K) | refine thn_ret ?_ | refine blk_ret ?_ | (refine thn_exit (K := K) ?_; clear hK K) | refine thn_exit ?_ | refine blk_here ?_ | refine blk_past rfl ?_ | refine thn_norm ?_ | refine blk_norm ?_ | refine CW.condT rfl ?_ | refine CW.condF rfl ?_ | (refine hK _ _ ?_; clear hK K))
      refine WL.step rfl (OpW.indexAddr k rfl rfl rfl hlt (sl_ne hs hlm) (sl_sp hs hlm) ?_)
      refine WL.step rfl (OpW.loadS (v := slv xs[k]) rfl (hs.grow hg2) (by simp [hlt]) ?_)
      repeat (first | refine WL.nil ?_ | refine WL.auto (h := ?_) | refine WL.gskip rfl rfl rfl rfl ?_ | refine WL.gauto (h := ?_) | (refine CW.seq ?_; intro K hK) | refine CW.block ?_ | refine CW.region ?_ | refine CW.skip ?_ | refine CW.exit ?_ | refine CW.ret ?_ | (refine thn_ret (K := K) ?_; clear hK K) | refine thn_ret ?_ | refine blk_ret ?_ | (refine thn_exit (K := K) ?_; clear hK K) | refine thn_exit ?_ | refine blk_here ?_ | refine blk_past rfl ?_ | refine thn_norm ?_ | refine blk_norm ?_ | refine CW.condT rfl ?_ | refine CW.condF rfl ?_ | (refine hK _ _ ?_; clear hK K))
      refine WL.step rfl (OpW.append rfl rfl rfl ho2 ((hx _ (List.getElem_mem hlt)).grow hg2) (bvs_len1 _) (bvs_one _) ⟨by omega, by omega⟩ ?_)
      intro A3 cap3 w3 ho3 hc3 _
      repeat (first | refine WL.nil ?_ | refine WL.auto (h := ?_) | refine WL.gskip rfl rfl rfl rfl ?_ | refine WL.gauto (h := ?_) | (refine CW.seq ?_; intro K hK) | refine CW.block ?_ | refine CW.region ?_ | refine CW.skip ?_ | refine CW.exit ?_ | refine CW.ret ?_ | (refine thn_ret (K := K) ?_; clear hK K) | refine thn_ret ?_ | refine blk_ret ?_ | (refine thn_exit (K := K) ?_; clear hK K) | refine thn_exit ?_ | refine blk_here ?_ | refine blk_past rfl ?_ | refine thn_norm ?_ | refine blk_norm ?_ | refine CW.condT rfl ?_ | refine CW.condF rfl ?_ | (refine hK _ _ ?_; clear hK K))
      have hz : ∀ g, ((∃ a, A2 = some a ∧ a.block = g) ∨ w2.heap.size ≤ g) → fresh w' g := fun g hg => appZone_fresh (fun a ha => (ho2.in_ ha).1) hg2.size g hg
      refine hJ (xs.length - (k + 1)) _ _ (by omega) ⟨k + 1, by omega, rfl, A3, cap3, ?_, Grow.chgNew hg2 hc3 ?_, rep5 rfl ?_ rfl rfl rfl⟩
      · rw [hf1, bvs_append, List.length_append]; exact ho3.mono hz
      · rintro i hi ⟨a, ha, rfl⟩
        exact Nat.not_lt.2 (ho2.in_ ha).1 hi
      · rw [hf1, List.length_append]; rfl
    · have hkk : k = xs.length := by omega
      subst hkk
      rw [List.take_length] at *
      repeat (first | refine WL.nil ?_ | refine WL.auto (h := ?_) | refine WL.gskip rfl rfl rfl rfl ?_ | refine WL.gauto (h := ?_) | (refine CW.seq ?_; intro K hK) | refine CW.block ?_ | refine CW.region ?_ | refine CW.skip ?_ | refine CW.exit ?_ | refine CW.ret ?_ | (refine thn_ret (K := K) ?_; clear hK K) | refine thn_ret ?_ | refine blk_ret ?_ | (refine thn_exit (K := K) ?_; clear hK K) | refine thn_exit ?_ | refine blk_here ?_ | refine blk_past rfl ?_ | refine thn_norm ?_ | refine blk_norm ?_ | refine CW.condT rfl ?_ | refine CW.condF rfl ?_ | (refine hK _ _ ?_; clear hK K))
      refine out1 Try.results69 rfl ?_ (Or.inr rfl)
      exact ⟨_, _, rfl, ho2, hg2⟩
end B
end Go.Proofs.Ytlofcomnhecgfaa
/- What wire.N, B, T, F and the document's N, B, F put. Sizes are bounded. -/
namespace Go.Proofs.Ytlofcomnhecgfaa
namespace B
attribute [local irreducible] OpW WL CW Ret Sl Blk thn blk outOf
set_option linter.unusedVariables false
set_option linter.unusedSimpArgs false

theorem blk_sl_lit {w w' : World} {b E : Nat} {vs : List Value} (h : New w w' b (.cells vs.toArray E)) : Sl w' (some ⟨b, 0, none⟩) vs :=
  Blk.slAll (E := E) h.blk vs (by simp)

/-- b, then bytes that are new. -/
theorem concat_two {A A2 : Option Addr} {cap cap2 : Nat} {l m : List UInt8} {w w0 : World} {b : Nat} (hs : Sl w0 A (bvs l)) (hs2 : Sl w0 A2 (bvs m)) (hn : New w0 w b (.cells #[Value.slice A l.length cap, .slice A2 m.length cap2] 22)) (hl : l.length + m.length ≤ 70368744177664) :
    Ret Try.prog 69 #[.slice (some ⟨b, 0, none⟩) 2 2] w fun v w' => NewBytes w w' v (l ++ m) := by
  have h := concat69 (some ⟨b, 0, none⟩) 2 [(A, cap, l), (A2, cap2, m)] w (by simpa [slv] using blk_sl_lit (vs := [Value.slice A l.length cap, .slice A2 m.length cap2]) hn) (by
    intro x hx
    simp only [List.mem_cons, List.not_mem_nil, or_false] at hx
    rcases hx with rfl | rfl
    · exact hs.grow hn.grow
    · exact hs2.grow hn.grow) (by simp) (by simpa [flat] using hl)
  simpa [flat] using h
theorem concat_three {A A2 A3 : Option Addr} {cap cap2 cap3 : Nat} {l m k : List UInt8} {w w0 : World} {b : Nat} (hs : Sl w0 A (bvs l)) (hs2 : Sl w0 A2 (bvs m)) (hs3 : Sl w0 A3 (bvs k)) (hn : New w0 w b (.cells #[Value.slice A l.length cap, .slice A2 m.length cap2, .slice A3 k.length cap3] 22)) (hl : l.length + (m.length + k.length) ≤ 70368744177664) :
    Ret Try.prog 69 #[.slice (some ⟨b, 0, none⟩) 3 3] w fun v w' => NewBytes w w' v (l ++ (m ++ k)) := by
  have h := concat69 (some ⟨b, 0, none⟩) 3 [(A, cap, l), (A2, cap2, m), (A3, cap3, k)] w (by simpa [slv] using blk_sl_lit (vs := [Value.slice A l.length cap, .slice A2 m.length cap2, .slice A3 k.length cap3]) hn) (by
    intro x hx
    simp only [List.mem_cons, List.not_mem_nil, or_false] at hx
    rcases hx with rfl | rfl | rfl
    · exact hs.grow hn.grow
    · exact hs2.grow hn.grow
    · exact hs3.grow hn.grow) (by simp) (by simpa [flat] using hl)
  simpa [flat] using h

theorem F24 (A : Option Addr) (cap : Nat) (l : List UInt8) (y : Bool) (w : World) (hs : Sl w A (bvs l)) (hl : l.length ≤ 1099511627776) : Ret Try.prog 24 #[.slice A l.length cap, .bool y] w fun v w' => NewBytes w w' v (putF l y) := by
  refine Ret.enter (fn := Try.f24) (N := 14) Try.func24 rfl Try.ntmps24 rfl ?_
  repeat (first | refine WL.nil ?_ | refine WL.auto (h := ?_) | refine WL.gskip rfl rfl rfl rfl ?_ | refine WL.gauto (h := ?_) | (refine CW.seq ?_; intro K hK) | refine CW.block ?_ | refine CW.region ?_ | refine CW.skip ?_ | refine CW.exit ?_ | refine CW.ret ?_ | (refine thn_ret (K := K) ?_; clear hK K) | refine thn_ret ?_ | refine blk_ret ?_ | (refine thn_exit (K := K) ?_; clear hK K) | refine thn_exit ?_ | refine blk_here ?_ | refine blk_past rfl ?_ | refine thn_norm ?_ | refine blk_norm ?_ | refine CW.condT rfl ?_ | refine CW.condF rfl ?_ | (refine hK _ _ ?_; clear hK K))
  refine CW.cond rfl (fun h1 => ?_) (fun h1 => ?_)
  all_goals
    subst h1
    repeat (first | refine WL.nil ?_ | refine WL.auto (h := ?_) | refine WL.gskip rfl rfl rfl rfl ?_ | refine WL.gauto (h := ?_) | (refine CW.seq ?_; intro K hK) | refine CW.block ?_ | refine CW.region ?_ | refine CW.skip ?_ | refine CW.exit ?_ | refine CW.ret ?_ | (refine thn_ret (K := K) ?_; clear hK K) | refine thn_ret ?_ | refine blk_ret ?_ | (refine thn_exit (K := K) ?_; clear hK K) | refine thn_exit ?_ | refine blk_here ?_ | refine blk_past rfl ?_ | refine thn_norm ?_ | refine blk_norm ?_ | refine CW.condT rfl ?_ | refine CW.condF rfl ?_ | (refine hK _ _ ?_; clear hK K))
    refine WL.step rfl ?_
    refine OpW.buildLit [_] rfl rfl rfl (by intro v hv; simp only [List.mem_cons, List.not_mem_nil, or_false] at hv; subst hv; rfl) ?_
    intro b1 w1 hn1
    refine WL.step rfl ?_
    refine OpW.buildLit [_, _] rfl rfl rfl (by intro v hv; simp only [List.mem_cons, List.not_mem_nil, or_false] at hv; rcases hv with rfl | rfl <;> rfl) ?_
    intro b2 w2 hn2
    refine WL.step rfl ?_
    first
      | refine OpW.call ((concat_two (hs.grow hn1.grow) (m := [1]) (blk_sl_lit hn1) hn2 (by simp; omega)).mono ?_) rfl
      | refine OpW.call ((concat_two (hs.grow hn1.grow) (m := [0]) (blk_sl_lit hn1) hn2 (by simp; omega)).mono ?_) rfl
    rintro v w3 hv
    obtain ⟨A', cap', rfl, ho, hg⟩ := hv
    repeat (first | refine WL.nil ?_ | refine WL.auto (h := ?_) | refine WL.gskip rfl rfl rfl rfl ?_ | refine WL.gauto (h := ?_) | (refine CW.seq ?_; intro K hK) | refine CW.block ?_ | refine CW.region ?_ | refine CW.skip ?_ | refine CW.exit ?_ | refine CW.ret ?_ | (refine thn_ret (K := K) ?_; clear hK K) | refine thn_ret ?_ | refine blk_ret ?_ | (refine thn_exit (K := K) ?_; clear hK K) | refine thn_exit ?_ | refine blk_here ?_ | refine blk_past rfl ?_ | refine thn_norm ?_ | refine blk_norm ?_ | refine CW.condT rfl ?_ | refine CW.condF rfl ?_ | (refine hK _ _ ?_; clear hK K))
    refine out1 Try.results24 rfl ?_ (Or.inr rfl)
    exact NewBytes.from_ ⟨_, _, rfl, ho, hg⟩ (hn1.grow.then hn2.grow)

theorem N21 (A : Option Addr) (cap : Nat) (l : List UInt8) (n : Nat) (w : World) (hs : Sl w A (bvs l)) (hl : l.length ≤ 1099511627776) : Ret Try.prog 21 #[.slice A l.length cap, .int .u64 (n : Int)] w fun v w' => NewBytes w w' v (putN l n) := by
  refine Ret.enter (fn := Try.f21) (N := 32) Try.func21 rfl Try.ntmps21 rfl ?_
  repeat (first | refine WL.nil ?_ | refine WL.auto (h := ?_) | refine WL.gskip rfl rfl rfl rfl ?_ | refine WL.gauto (h := ?_) | (refine CW.seq ?_; intro K hK) | refine CW.block ?_ | refine CW.region ?_ | refine CW.skip ?_ | refine CW.exit ?_ | refine CW.ret ?_ | (refine thn_ret (K := K) ?_; clear hK K) | refine thn_ret ?_ | refine blk_ret ?_ | (refine thn_exit (K := K) ?_; clear hK K) | refine thn_exit ?_ | refine blk_here ?_ | refine blk_past rfl ?_ | refine thn_norm ?_ | refine blk_norm ?_ | refine CW.condT rfl ?_ | refine CW.condF rfl ?_ | (refine hK _ _ ?_; clear hK K))
  iterate 7
    refine WL.step rfl ?_
    first
      | refine OpW.shrN 56 rfl rfl rfl (by decide) ?_
      | refine OpW.shrN 48 rfl rfl rfl (by decide) ?_
      | refine OpW.shrN 40 rfl rfl rfl (by decide) ?_
      | refine OpW.shrN 32 rfl rfl rfl (by decide) ?_
      | refine OpW.shrN 24 rfl rfl rfl (by decide) ?_
      | refine OpW.shrN 16 rfl rfl rfl (by decide) ?_
      | refine OpW.shrN 8 rfl rfl rfl (by decide) ?_
    repeat (first | refine WL.nil ?_ | refine WL.auto (h := ?_) | refine WL.gskip rfl rfl rfl rfl ?_ | refine WL.gauto (h := ?_) | (refine CW.seq ?_; intro K hK) | refine CW.block ?_ | refine CW.region ?_ | refine CW.skip ?_ | refine CW.exit ?_ | refine CW.ret ?_ | (refine thn_ret (K := K) ?_; clear hK K) | refine thn_ret ?_ | refine blk_ret ?_ | (refine thn_exit (K := K) ?_; clear hK K) | refine thn_exit ?_ | refine blk_here ?_ | refine blk_past rfl ?_ | refine thn_norm ?_ | refine blk_norm ?_ | refine CW.condT rfl ?_ | refine CW.condF rfl ?_ | (refine hK _ _ ?_; clear hK K))
  refine WL.step rfl ?_
  refine OpW.buildLit [_, _, _, _, _, _, _, _] rfl rfl rfl (by intro v hv; simp only [List.mem_cons, List.not_mem_nil, or_false] at hv; rcases hv with rfl | rfl | rfl | rfl | rfl | rfl | rfl | rfl <;> rfl) ?_
  intro b1 w1 hn1
  refine WL.step rfl ?_
  refine OpW.buildLit [_, _] rfl rfl rfl (by intro v hv; simp only [List.mem_cons, List.not_mem_nil, or_false] at hv; rcases hv with rfl | rfl <;> rfl) ?_
  intro b2 w2 hn2
  refine WL.step rfl ?_
  refine OpW.call ((concat_two (hs.grow hn1.grow) (m := beN n) (blk_sl_lit hn1) hn2 (by simp [beN]; omega)).mono ?_) rfl
  rintro v w3 ⟨A', cap', rfl, ho, hg⟩
  repeat (first | refine WL.nil ?_ | refine WL.auto (h := ?_) | refine WL.gskip rfl rfl rfl rfl ?_ | refine WL.gauto (h := ?_) | (refine CW.seq ?_; intro K hK) | refine CW.block ?_ | refine CW.region ?_ | refine CW.skip ?_ | refine CW.exit ?_ | refine CW.ret ?_ | (refine thn_ret (K := K) ?_; clear hK K) | refine thn_ret ?_ | refine blk_ret ?_ | (refine thn_exit (K := K) ?_; clear hK K) | refine thn_exit ?_ | refine blk_here ?_ | refine blk_past rfl ?_ | refine thn_norm ?_ | refine blk_norm ?_ | refine CW.condT rfl ?_ | refine CW.condF rfl ?_ | (refine hK _ _ ?_; clear hK K))
  refine out1 Try.results21 rfl ?_ (Or.inr rfl)
  exact NewBytes.from_ ⟨_, _, rfl, ho, hg⟩ (hn1.grow.then hn2.grow)

theorem B22 (A A2 : Option Addr) (cap cap2 : Nat) (l x : List UInt8) (w : World) (hs : Sl w A (bvs l)) (hx : Sl w A2 (bvs x)) (hl : l.length ≤ 1099511627776) (hc : x.length ≤ cap2) (hm : x.length ≤ 1099511627776) : Ret Try.prog 22 #[.slice A l.length cap, .slice A2 x.length cap2] w fun v w' => NewBytes w w' v (putB l x) := by
  refine Ret.enter (fn := Try.f22) (N := 22) Try.func22 rfl Try.ntmps22 rfl ?_
  have hfl := fld_length x
  have hmin : (if (65535 : Int) < (x.length : Int) then (65535 : Int) else (x.length : Int)) = ((fld x).length : Int) := by
    rw [hfl]; split <;> omega
  repeat (first | refine WL.nil ?_ | refine WL.auto (h := ?_) | refine WL.gskip rfl rfl rfl rfl ?_ | refine WL.gauto (h := ?_) | (refine CW.seq ?_; intro K hK) | refine CW.block ?_ | refine CW.region ?_ | refine CW.skip ?_ | refine CW.exit ?_ | refine CW.ret ?_ | (refine thn_ret (K := K) ?_; clear hK K) | refine thn_ret ?_ | refine blk_ret ?_ | (refine thn_exit (K := K) ?_; clear hK K) | refine thn_exit ?_ | refine blk_here ?_ | refine blk_past rfl ?_ | refine thn_norm ?_ | refine blk_norm ?_ | refine CW.condT rfl ?_ | refine CW.condF rfl ?_ | (refine hK _ _ ?_; clear hK K))
  rw [hmin]
  refine WL.step rfl ?_
  refine OpW.sliceHi (fld x).length rfl rfl rfl (by omega) ?_
  repeat (first | refine WL.nil ?_ | refine WL.auto (h := ?_) | refine WL.gskip rfl rfl rfl rfl ?_ | refine WL.gauto (h := ?_) | (refine CW.seq ?_; intro K hK) | refine CW.block ?_ | refine CW.region ?_ | refine CW.skip ?_ | refine CW.exit ?_ | refine CW.ret ?_ | (refine thn_ret (K := K) ?_; clear hK K) | refine thn_ret ?_ | refine blk_ret ?_ | (refine thn_exit (K := K) ?_; clear hK K) | refine thn_exit ?_ | refine blk_here ?_ | refine blk_past rfl ?_ | refine thn_norm ?_ | refine blk_norm ?_ | refine CW.condT rfl ?_ | refine CW.condF rfl ?_ | (refine hK _ _ ?_; clear hK K))
  refine WL.step rfl ?_
  refine OpW.shrN 8 rfl rfl rfl (by decide) ?_
  repeat (first | refine WL.nil ?_ | refine WL.auto (h := ?_) | refine WL.gskip rfl rfl rfl rfl ?_ | refine WL.gauto (h := ?_) | (refine CW.seq ?_; intro K hK) | refine CW.block ?_ | refine CW.region ?_ | refine CW.skip ?_ | refine CW.exit ?_ | refine CW.ret ?_ | (refine thn_ret (K := K) ?_; clear hK K) | refine thn_ret ?_ | refine blk_ret ?_ | (refine thn_exit (K := K) ?_; clear hK K) | refine thn_exit ?_ | refine blk_here ?_ | refine blk_past rfl ?_ | refine thn_norm ?_ | refine blk_norm ?_ | refine CW.condT rfl ?_ | refine CW.condF rfl ?_ | (refine hK _ _ ?_; clear hK K))
  refine WL.step rfl ?_
  refine OpW.buildLit [_, _, _, _] rfl rfl rfl (by intro v hv; simp only [List.mem_cons, List.not_mem_nil, or_false] at hv; rcases hv with rfl | rfl | rfl | rfl <;> rfl) ?_
  intro b1 w1 hn1
  repeat (first | refine WL.nil ?_ | refine WL.auto (h := ?_) | refine WL.gskip rfl rfl rfl rfl ?_ | refine WL.gauto (h := ?_) | (refine CW.seq ?_; intro K hK) | refine CW.block ?_ | refine CW.region ?_ | refine CW.skip ?_ | refine CW.exit ?_ | refine CW.ret ?_ | (refine thn_ret (K := K) ?_; clear hK K) | refine thn_ret ?_ | refine blk_ret ?_ | (refine thn_exit (K := K) ?_; clear hK K) | refine thn_exit ?_ | refine blk_here ?_ | refine blk_past rfl ?_ | refine thn_norm ?_ | refine blk_norm ?_ | refine CW.condT rfl ?_ | refine CW.condF rfl ?_ | (refine hK _ _ ?_; clear hK K))
  refine WL.step rfl ?_
  refine OpW.buildLit [_, _, _] rfl rfl rfl (by intro v hv; simp only [List.mem_cons, List.not_mem_nil, or_false] at hv; rcases hv with rfl | rfl | rfl <;> rfl) ?_
  intro b2 w2 hn2
  have hx' : Sl w A2 (bvs (fld x)) := by rw [fld, ← bvs_take]; exact hx.take _
  refine WL.step rfl ?_
  refine OpW.call ((concat_three (hs.grow hn1.grow) (m := be4 (fld x).length) (blk_sl_lit hn1) (hx'.grow hn1.grow) hn2 (by rw [be4_length]; omega)).mono ?_) rfl
  rintro v w3 ⟨A', cap', rfl, ho, hg⟩
  repeat (first | refine WL.nil ?_ | refine WL.auto (h := ?_) | refine WL.gskip rfl rfl rfl rfl ?_ | refine WL.gauto (h := ?_) | (refine CW.seq ?_; intro K hK) | refine CW.block ?_ | refine CW.region ?_ | refine CW.skip ?_ | refine CW.exit ?_ | refine CW.ret ?_ | (refine thn_ret (K := K) ?_; clear hK K) | refine thn_ret ?_ | refine blk_ret ?_ | (refine thn_exit (K := K) ?_; clear hK K) | refine thn_exit ?_ | refine blk_here ?_ | refine blk_past rfl ?_ | refine thn_norm ?_ | refine blk_norm ?_ | refine CW.condT rfl ?_ | refine CW.condF rfl ?_ | (refine hK _ _ ?_; clear hK K))
  refine out1 Try.results22 rfl ?_ (Or.inr rfl)
  exact NewBytes.from_ ⟨_, _, rfl, ho, hg⟩ (hn1.grow.then hn2.grow)

theorem T23 (A : Option Addr) (cap : Nat) (l x : List UInt8) (w : World) (hs : Sl w A (bvs l)) (hl : l.length ≤ 1099511627776) (hm : x.length ≤ 1099511627776) : Ret Try.prog 23 #[.slice A l.length cap, .string (bstr x)] w fun v w' => NewBytes w w' v (putB l x) := by
  refine Ret.enter (fn := Try.f23) (N := 9) Try.func23 rfl Try.ntmps23 rfl ?_
  repeat (first | refine WL.nil ?_ | refine WL.auto (h := ?_) | refine WL.gskip rfl rfl rfl rfl ?_ | refine WL.gauto (h := ?_) | (refine CW.seq ?_; intro K hK) | refine CW.block ?_ | refine CW.region ?_ | refine CW.skip ?_ | refine CW.exit ?_ | refine CW.ret ?_ | (refine thn_ret (K := K) ?_; clear hK K) | refine thn_ret ?_ | refine blk_ret ?_ | (refine thn_exit (K := K) ?_; clear hK K) | refine thn_exit ?_ | refine blk_here ?_ | refine blk_past rfl ?_ | refine thn_norm ?_ | refine blk_norm ?_ | refine CW.condT rfl ?_ | refine CW.condF rfl ?_ | (refine hK _ _ ?_; clear hK K))
  refine WL.step rfl ?_
  refine OpW.toBytes rfl ?_
  intro b c w1 hg hb _ hs1 hc
  refine WL.step rfl ?_
  refine OpW.call ((B22 _ _ _ _ _ _ _ (hs.grow hg) hs1 hl hc hm).mono ?_) rfl
  rintro v w3 ⟨A', cap', rfl, ho, hg3⟩
  repeat (first | refine WL.nil ?_ | refine WL.auto (h := ?_) | refine WL.gskip rfl rfl rfl rfl ?_ | refine WL.gauto (h := ?_) | (refine CW.seq ?_; intro K hK) | refine CW.block ?_ | refine CW.region ?_ | refine CW.skip ?_ | refine CW.exit ?_ | refine CW.ret ?_ | (refine thn_ret (K := K) ?_; clear hK K) | refine thn_ret ?_ | refine blk_ret ?_ | (refine thn_exit (K := K) ?_; clear hK K) | refine thn_exit ?_ | refine blk_here ?_ | refine blk_past rfl ?_ | refine thn_norm ?_ | refine blk_norm ?_ | refine CW.condT rfl ?_ | refine CW.condF rfl ?_ | (refine hK _ _ ?_; clear hK K))
  refine out1 Try.results23 rfl ?_ (Or.inr rfl)
  exact NewBytes.from_ ⟨_, _, rfl, ho, hg3⟩ hg
end B
end Go.Proofs.Ytlofcomnhecgfaa
/- isthmuslaw02.same tells whether two slices hold the same bytes. No conditions but sizes. -/
namespace Go.Proofs.Ytlofcomnhecgfaa
namespace B
attribute [local irreducible] OpW WL CW Ret Sl Blk thn blk outOf
set_option linter.unusedVariables false
set_option linter.unusedSimpArgs false

theorem bvs_at {l : List UInt8} {k : Nat} (h : k < l.length) : (bvs l)[k]? = some (bv l[k]) := by simp [bvs, h]
theorem take_eq_succ {l m : List UInt8} {k : Nat} (hl : k < l.length) (hm : k < m.length) (h : l.take k = m.take k) : l.take (k + 1) = m.take (k + 1) ↔ l[k] = m[k] := by
  rw [List.take_succ_eq_append_getElem hl, List.take_succ_eq_append_getElem hm, h]
  exact ⟨fun h => List.head_eq_of_cons_eq (List.append_cancel_left h), fun h => by rw [h]⟩

theorem same26 (A A2 : Option Addr) (cap cap2 : Nat) (l m : List UInt8) (w : World) (hs : Sl w A (bvs l)) (hm : Sl w A2 (bvs m)) (hl : l.length ≤ 9223372036854775807) : Ret Try.prog 26 #[.slice A l.length cap, .slice A2 m.length cap2] w fun v w' => v = .bool (decide (l = m)) ∧ Grow w w' := by
  refine Ret.enter (fn := Try.f26) (N := 26) Try.func26 rfl Try.ntmps26 rfl ?_
  repeat (first | refine WL.nil ?_ | refine WL.auto (h := ?_) | refine WL.gskip rfl rfl rfl rfl ?_ | refine WL.gauto (h := ?_) | (refine CW.seq ?_; intro K hK) | refine CW.block ?_ | refine CW.region ?_ | refine CW.skip ?_ | refine CW.exit ?_ | refine CW.ret ?_ | (refine thn_ret (K := K) ?_; clear hK K) | refine thn_ret ?_ | refine blk_ret ?_ | (refine thn_exit (K := K) ?_; clear hK K) | refine thn_exit ?_ | refine blk_here ?_ | refine blk_past rfl ?_ | refine thn_norm ?_ | refine blk_norm ?_ | refine CW.condT rfl ?_ | refine CW.condF rfl ?_ | (refine hK _ _ ?_; clear hK K))
  refine CW.condP rfl (fun h1 => ?_) (fun h1 => ?_)
  · repeat (first | refine WL.nil ?_ | refine WL.auto (h := ?_) | refine WL.gskip rfl rfl rfl rfl ?_ | refine WL.gauto (h := ?_) | (refine CW.seq ?_; intro K hK) | refine CW.block ?_ | refine CW.region ?_ | refine CW.skip ?_ | refine CW.exit ?_ | refine CW.ret ?_ | (refine thn_ret (K := K) ?_; clear hK K) | refine thn_ret ?_ | refine blk_ret ?_ | (refine thn_exit (K := K) ?_; clear hK K) | refine thn_exit ?_ | refine blk_here ?_ | refine blk_past rfl ?_ | refine thn_norm ?_ | refine blk_norm ?_ | refine CW.condT rfl ?_ | refine CW.condF rfl ?_ | (refine hK _ _ ?_; clear hK K))
    have : ¬ l = m := fun h => h1 (by rw [h])
    exact out1 (v := .bool false) Try.results26 rfl ⟨by simp [this], Chg.refl _ _⟩ (Or.inr rfl)
  · have hlm : l.length = m.length := by omega
    repeat (first | refine WL.nil ?_ | refine WL.auto (h := ?_) | refine WL.gskip rfl rfl rfl rfl ?_ | refine WL.gauto (h := ?_) | (refine CW.seq ?_; intro K hK) | refine CW.block ?_ | refine CW.region ?_ | refine CW.skip ?_ | refine CW.exit ?_ | refine CW.ret ?_ | (refine thn_ret (K := K) ?_; clear hK K) | refine thn_ret ?_ | refine blk_ret ?_ | (refine thn_exit (K := K) ?_; clear hK K) | refine thn_exit ?_ | refine blk_here ?_ | refine blk_past rfl ?_ | refine thn_norm ?_ | refine blk_norm ?_ | refine CW.condT rfl ?_ | refine CW.condF rfl ?_ | (refine hK _ _ ?_; clear hK K))
    refine CW.loop (fun n e w2 => ∃ k, k ≤ l.length ∧ n = l.length - k ∧ l.take k = m.take k ∧ Grow w w2 ∧ ∃ e0, e = upd (upd (upd (upd e0 0 (.slice A l.length cap)) 1 (.slice A2 m.length cap2)) 12 (.int .i64 l.length)) 13 (.int .i64 k)) l.length ?_ ?_
    · exact ⟨0, by omega, by omega, by simp, Chg.refl _ _, rep4 rfl rfl rfl rfl⟩
    rintro n e w2 ⟨k, hk, rfl, heq, hg2, e0, rfl⟩ KJ hJ
    repeat (first | refine WL.nil ?_ | refine WL.auto (h := ?_) | refine WL.gskip rfl rfl rfl rfl ?_ | refine WL.gauto (h := ?_) | (refine CW.seq ?_; intro K hK) | refine CW.block ?_ | refine CW.region ?_ | refine CW.skip ?_ | refine CW.exit ?_ | refine CW.ret ?_ | (refine thn_ret (K := K) ?_; clear hK K) | refine thn_ret ?_ | refine blk_ret ?_ | (refine thn_exit (K := K) ?_; clear hK K) | refine thn_exit ?_ | refine blk_here ?_ | refine blk_past rfl ?_ | refine thn_norm ?_ | refine blk_norm ?_ | refine CW.condT rfl ?_ | refine CW.condF rfl ?_ | (refine hK _ _ ?_; clear hK K))
    refine CW.condP rfl (fun h2 => ?_) (fun h2 => ?_)
    · have hkl : k < l.length := by omega
      have hkm : k < m.length := by omega
      have hb1 : k < (bvs l).length := by rw [bvs_length]; exact hkl
      have hb2 : k < (bvs m).length := by rw [bvs_length]; exact hkm
      have hs2 := hs.grow hg2
      have hm2 := hm.grow hg2
      have hg1 := bvs_at hkl
      have hg3 := bvs_at hkm
      repeat (first | refine WL.nil ?_ | refine WL.auto (h := ?_) | refine WL.gskip rfl rfl rfl rfl ?_ | refine WL.gauto (h := ?_) | (refine CW.seq ?_; intro K hK) | refine CW.block ?_ | refine CW.region ?_ | refine CW.skip ?_ | refine CW.exit ?_ | refine CW.ret ?_ | (refine thn_ret (K := K) ?_; clear hK K) | refine thn_ret ?_ | refine blk_ret ?_ | (refine thn_exit (K := K) ?_; clear hK K) | refine thn_exit ?_ | refine blk_here ?_ | refine blk_past rfl ?_ | refine thn_norm ?_ | refine blk_norm ?_ | refine CW.condT rfl ?_ | refine CW.condF rfl ?_ | (refine hK _ _ ?_; clear hK K))
      refine CW.quiet rfl (by kernel_rfl) ?_
      repeat (first | refine QL.nil ?_ | refine QL.auto (hn := ?_) | refine QL.gskip rfl rfl rfl rfl ?_ | refine QL.gauto (hn := ?_))
      refine QL.step rfl rfl (fun w hg => OpW.indexAddr k rfl rfl rfl hkl (sl_ne hs hb1) (sl_sp hs hb1) ⟨rfl, rfl⟩) ?_
      refine QL.step rfl rfl (fun w hg => OpW.loadS (v := bv l[k]) rfl (hs2.grow hg) (by simpa using hg1) ⟨rfl, rfl⟩) ?_
      repeat (first | refine QL.nil ?_ | refine QL.auto (hn := ?_) | refine QL.gskip rfl rfl rfl rfl ?_ | refine QL.gauto (hn := ?_))
      refine QL.step rfl rfl (fun w hg => OpW.indexAddr k rfl rfl rfl hkm (sl_ne hm hb2) (sl_sp hm hb2) ⟨rfl, rfl⟩) ?_
      refine QL.step rfl rfl (fun w hg => OpW.loadS (v := bv m[k]) rfl (hm2.grow hg) (by simpa using hg3) ⟨rfl, rfl⟩) ?_
      repeat (first | refine QL.nil ?_ | refine QL.auto (hn := ?_) | refine QL.gskip rfl rfl rfl rfl ?_ | refine QL.gauto (hn := ?_))
      intro w3 hg4
      repeat (first | refine WL.nil ?_ | refine WL.auto (h := ?_) | refine WL.gskip rfl rfl rfl rfl ?_ | refine WL.gauto (h := ?_) | (refine CW.seq ?_; intro K hK) | refine CW.block ?_ | refine CW.region ?_ | refine CW.skip ?_ | refine CW.exit ?_ | refine CW.ret ?_ | (refine thn_ret (K := K) ?_; clear hK K) | refine thn_ret ?_ | refine blk_ret ?_ | (refine thn_exit (K := K) ?_; clear hK K) | refine thn_exit ?_ | refine blk_here ?_ | refine blk_past rfl ?_ | refine thn_norm ?_ | refine blk_norm ?_ | refine CW.condT rfl ?_ | refine CW.condF rfl ?_ | (refine hK _ _ ?_; clear hK K))
      refine CW.condP rfl (fun h3 => ?_) (fun h3 => ?_)
      · repeat (first | refine WL.nil ?_ | refine WL.auto (h := ?_) | refine WL.gskip rfl rfl rfl rfl ?_ | refine WL.gauto (h := ?_) | (refine CW.seq ?_; intro K hK) | refine CW.block ?_ | refine CW.region ?_ | refine CW.skip ?_ | refine CW.exit ?_ | refine CW.ret ?_ | (refine thn_ret (K := K) ?_; clear hK K) | refine thn_ret ?_ | refine blk_ret ?_ | (refine thn_exit (K := K) ?_; clear hK K) | refine thn_exit ?_ | refine blk_here ?_ | refine blk_past rfl ?_ | refine thn_norm ?_ | refine blk_norm ?_ | refine CW.condT rfl ?_ | refine CW.condF rfl ?_ | (refine hK _ _ ?_; clear hK K))
        have : ¬ l = m := fun h => h3 (by subst h; rfl)
        exact out1 (v := .bool false) Try.results26 rfl ⟨by simp [this], hg2.then hg4⟩ (Or.inr rfl)
      · have h4 : l[k] = m[k] := by
          apply UInt8.toNat.inj
          omega
        repeat (first | refine WL.nil ?_ | refine WL.auto (h := ?_) | refine WL.gskip rfl rfl rfl rfl ?_ | refine WL.gauto (h := ?_) | (refine CW.seq ?_; intro K hK) | refine CW.block ?_ | refine CW.region ?_ | refine CW.skip ?_ | refine CW.exit ?_ | refine CW.ret ?_ | (refine thn_ret (K := K) ?_; clear hK K) | refine thn_ret ?_ | refine blk_ret ?_ | (refine thn_exit (K := K) ?_; clear hK K) | refine thn_exit ?_ | refine blk_here ?_ | refine blk_past rfl ?_ | refine thn_norm ?_ | refine blk_norm ?_ | refine CW.condT rfl ?_ | refine CW.condF rfl ?_ | (refine hK _ _ ?_; clear hK K))
        exact hJ (l.length - (k + 1)) _ _ (by omega) ⟨k + 1, by omega, rfl, (take_eq_succ hkl hkm heq).2 h4, hg2.then hg4, rep4 rfl rfl rfl rfl⟩
    · have hkk : k = l.length := by omega
      subst hkk
      repeat (first | refine WL.nil ?_ | refine WL.auto (h := ?_) | refine WL.gskip rfl rfl rfl rfl ?_ | refine WL.gauto (h := ?_) | (refine CW.seq ?_; intro K hK) | refine CW.block ?_ | refine CW.region ?_ | refine CW.skip ?_ | refine CW.exit ?_ | refine CW.ret ?_ | (refine thn_ret (K := K) ?_; clear hK K) | refine thn_ret ?_ | refine blk_ret ?_ | (refine thn_exit (K := K) ?_; clear hK K) | refine thn_exit ?_ | refine blk_here ?_ | refine blk_past rfl ?_ | refine thn_norm ?_ | refine blk_norm ?_ | refine CW.condT rfl ?_ | refine CW.condF rfl ?_ | (refine hK _ _ ?_; clear hK K))
      rw [List.take_length, hlm, List.take_length] at heq
      exact out1 (v := .bool true) Try.results26 rfl ⟨by simp [heq], hg2⟩ (Or.inr rfl)
end B
end Go.Proofs.Ytlofcomnhecgfaa
/- wire.Open and the number at a place of a reader. Sizes are bounded. -/
namespace Go.Proofs.Ytlofcomnhecgfaa
namespace B
attribute [local irreducible] OpW WL CW Ret Sl Blk thn blk outOf
set_option linter.unusedVariables false
set_option linter.unusedSimpArgs false

/-- A reader at block rb: its bytes, its fault; its bytes lie in Z. -/
def Rd (w : World) (rb : Nat) (s : RS) (Z : Nat → Prop) : Prop :=
  ∃ A cap, Blk w rb #[.slice A s.1.length cap, .int .i64 s.2] 115 ∧ Sl w A (bvs s.1) ∧ (∀ a, A = some a → a.spot = none ∧ Z a.block ∧ a.block ≠ rb) ∧ s.1.length ≤ cap ∧ s.1.length ≤ 70368744177664
theorem Rd.keep {S : Nat → Prop} {w w' : World} {rb : Nat} {s : RS} {Z : Nat → Prop} (h : Rd w rb s Z) (hc : Chg S w w') (h1 : ¬ S rb) (h2 : ∀ b, Z b → ¬ S b) : Rd w' rb s Z := by
  obtain ⟨A, cap, g1, g2, g3, g4, g5⟩ := h
  exact ⟨A, cap, g1.keep hc h1, g2.keep hc fun a ha => h2 _ (g3 a ha).2.1, g3, g4, g5⟩
theorem Rd.grow {w w' : World} {rb : Nat} {s : RS} {Z : Nat → Prop} (h : Rd w rb s Z) (hc : Grow w w') : Rd w' rb s Z := h.keep hc (fun hf => hf) fun _ _ hf => hf
theorem Rd.mono {w : World} {rb : Nat} {s : RS} {Z Z' : Nat → Prop} (h : Rd w rb s Z) (hz : ∀ b, Z b → Z' b) : Rd w rb s Z' := by
  obtain ⟨A, cap, g1, g2, g3, g4, g5⟩ := h
  exact ⟨A, cap, g1, g2, fun a ha => ⟨(g3 a ha).1, hz _ (g3 a ha).2.1, (g3 a ha).2.2⟩, g4, g5⟩

theorem open43 (A : Option Addr) (cap : Nat) (l : List UInt8) (w : World) (hs : Sl w A (bvs l)) (hl : l.length ≤ 70368744177664) : Ret Try.prog 43 #[.slice A l.length cap] w fun v w' => ∃ rb, v = .pointer (some ⟨rb, 0, none⟩) ∧ Rd w' rb (l, 0) (fresh w) ∧ Grow w w' ∧ w.heap.size ≤ rb := by
  refine Ret.enter (fn := Try.f43) (N := 7) Try.func43 rfl Try.ntmps43 rfl ?_
  repeat (first | refine WL.nil ?_ | refine WL.auto (h := ?_) | refine WL.gskip rfl rfl rfl rfl ?_ | refine WL.gauto (h := ?_) | (refine CW.seq ?_; intro K hK) | refine CW.block ?_ | refine CW.region ?_ | refine CW.skip ?_ | refine CW.exit ?_ | refine CW.ret ?_ | (refine thn_ret (K := K) ?_; clear hK K) | refine thn_ret ?_ | refine blk_ret ?_ | (refine thn_exit (K := K) ?_; clear hK K) | refine thn_exit ?_ | refine blk_here ?_ | refine blk_past rfl ?_ | refine thn_norm ?_ | refine blk_norm ?_ | refine CW.condT rfl ?_ | refine CW.condF rfl ?_ | (refine hK _ _ ?_; clear hK K))
  refine WL.step rfl ?_
  refine OpW.call ((clone73 _ _ _ _ hs hl).mono ?_) rfl
  rintro v w1 ⟨A', cap', rfl, ho, hg⟩
  refine WL.step rfl ?_
  refine OpW.build (cells := #[.slice A' l.length cap', .int .i64 0]) rfl rfl ?_
  refine WL.step rfl ?_
  refine OpW.box (v := .agg #[.slice A' l.length cap', .int .i64 0]) rfl ?_
  intro b w2 hn
  repeat (first | refine WL.nil ?_ | refine WL.auto (h := ?_) | refine WL.gskip rfl rfl rfl rfl ?_ | refine WL.gauto (h := ?_) | (refine CW.seq ?_; intro K hK) | refine CW.block ?_ | refine CW.region ?_ | refine CW.skip ?_ | refine CW.exit ?_ | refine CW.ret ?_ | (refine thn_ret (K := K) ?_; clear hK K) | refine thn_ret ?_ | refine blk_ret ?_ | (refine thn_exit (K := K) ?_; clear hK K) | refine thn_exit ?_ | refine blk_here ?_ | refine blk_past rfl ?_ | refine thn_norm ?_ | refine blk_norm ?_ | refine CW.condT rfl ?_ | refine CW.condF rfl ?_ | (refine hK _ _ ?_; clear hK K))
  refine out1 (v := .pointer (some ⟨b, 0, none⟩)) Try.results43 rfl ?_ (Or.inr rfl)
  refine ⟨b, rfl, ⟨A', cap', hn.blk, (ho.grow hn.grow).sl, fun a ha => ⟨spot_own ho a ha, (ho.in_ ha).1, ?_⟩, ho.le, hl⟩, hg.then hn.grow, Nat.le_trans hg.size hn.fresh⟩
  have h1 := (ho.in_ ha).2
  have h2 := hn.fresh
  omega

theorem or_false_dec (p : Prop) [Decidable p] (h : p) : decide p = true := by simp [h]

theorem number76 (rb : Nat) (s : RS) (at' n : Nat) (Z : Nat → Prop) (w : World) (hr : Rd w rb s Z) (hn : n ≤ 8) (ha : at' ≤ 70368744177664) :
    Ret Try.prog 76 #[.pointer (some ⟨rb, 0, none⟩), .int .i64 (at' : Int), .int .i64 (n : Int)] w fun v w' => v = .tuple #[.int .u64 ((rNum s at' n).1 : Int), .bool (rNum s at' n).2.1] ∧ Rd w' rb (rNum s at' n).2.2 Z ∧ Chg (· = rb) w w' := by
  obtain ⟨L, bad⟩ := s
  obtain ⟨A, cap, hb, hs, hA, hcap, hL⟩ := hr
  simp only at hb hs hcap hL
  refine Ret.enter (fn := Try.f76) (N := 53) Try.func76 rfl Try.ntmps76 rfl ?_
  repeat (first | refine WL.nil ?_ | refine WL.auto (h := ?_) | refine WL.gskip rfl rfl rfl rfl ?_ | refine WL.gauto (h := ?_) | (refine CW.seq ?_; intro K hK) | refine CW.block ?_ | refine CW.region ?_ | refine CW.skip ?_ | refine CW.exit ?_ | refine CW.ret ?_ | (refine thn_ret (K := K) ?_; clear hK K) | refine thn_ret ?_ | refine blk_ret ?_ | (refine thn_exit (K := K) ?_; clear hK K) | refine thn_exit ?_ | refine blk_here ?_ | refine blk_past rfl ?_ | refine thn_norm ?_ | refine blk_norm ?_ | refine CW.condT rfl ?_ | refine CW.condF rfl ?_ | (refine hK _ _ ?_; clear hK K))
  refine CW.condP rfl (fun h1 => ?_) (fun h1 => ?_)
  · have e1 : rNum (L, bad) at' n = (0, false, (L, bad)) := by unfold rNum; rw [if_pos h1]
    repeat (first | refine WL.nil ?_ | refine WL.auto (h := ?_) | refine WL.gskip rfl rfl rfl rfl ?_ | refine WL.gauto (h := ?_) | (refine CW.seq ?_; intro K hK) | refine CW.block ?_ | refine CW.region ?_ | refine CW.skip ?_ | refine CW.exit ?_ | refine CW.ret ?_ | (refine thn_ret (K := K) ?_; clear hK K) | refine thn_ret ?_ | refine blk_ret ?_ | (refine thn_exit (K := K) ?_; clear hK K) | refine thn_exit ?_ | refine blk_here ?_ | refine blk_past rfl ?_ | refine thn_norm ?_ | refine blk_norm ?_ | refine CW.condT rfl ?_ | refine CW.condF rfl ?_ | (refine hK _ _ ?_; clear hK K))
    refine out2 (v1 := .int .u64 0) (v2 := .bool false) Try.results76 rfl rfl ?_ (Or.inr rfl)
    rw [e1]
    exact ⟨rfl, ⟨A, cap, hb, hs, hA, hcap, hL⟩, Chg.refl _ _⟩
  have hbad : ¬ (bad ≠ 0) := h1
  repeat (first | refine WL.nil ?_ | refine WL.auto (h := ?_) | refine WL.gskip rfl rfl rfl rfl ?_ | refine WL.gauto (h := ?_) | (refine CW.seq ?_; intro K hK) | refine CW.block ?_ | refine CW.region ?_ | refine CW.skip ?_ | refine CW.exit ?_ | refine CW.ret ?_ | (refine thn_ret (K := K) ?_; clear hK K) | refine thn_ret ?_ | refine blk_ret ?_ | (refine thn_exit (K := K) ?_; clear hK K) | refine thn_exit ?_ | refine blk_here ?_ | refine blk_past rfl ?_ | refine thn_norm ?_ | refine blk_norm ?_ | refine CW.condT rfl ?_ | refine CW.condF rfl ?_ | (refine hK _ _ ?_; clear hK K))
  refine CW.condP rfl (fun h2 => ?_) (fun h2 => ?_)
  · have e1 : rNum (L, bad) at' n = (0, false, (L, 20)) := by unfold rNum; rw [if_neg hbad, if_pos (show L.length < at' + n by omega)]
    repeat (first | refine WL.nil ?_ | refine WL.auto (h := ?_) | refine WL.gskip rfl rfl rfl rfl ?_ | refine WL.gauto (h := ?_) | (refine CW.seq ?_; intro K hK) | refine CW.block ?_ | refine CW.region ?_ | refine CW.skip ?_ | refine CW.exit ?_ | refine CW.ret ?_ | (refine thn_ret (K := K) ?_; clear hK K) | refine thn_ret ?_ | refine blk_ret ?_ | (refine thn_exit (K := K) ?_; clear hK K) | refine thn_exit ?_ | refine blk_here ?_ | refine blk_past rfl ?_ | refine thn_norm ?_ | refine blk_norm ?_ | refine CW.condT rfl ?_ | refine CW.condF rfl ?_ | (refine hK _ _ ?_; clear hK K))
    refine WL.step0 ?_
    refine OpW.store (v := .int _ _) rfl rfl rfl hb rfl (c' := #[_, _]) rfl ?_
    intro w1 hp hb1
    repeat (first | refine WL.nil ?_ | refine WL.auto (h := ?_) | refine WL.gskip rfl rfl rfl rfl ?_ | refine WL.gauto (h := ?_) | (refine CW.seq ?_; intro K hK) | refine CW.block ?_ | refine CW.region ?_ | refine CW.skip ?_ | refine CW.exit ?_ | refine CW.ret ?_ | (refine thn_ret (K := K) ?_; clear hK K) | refine thn_ret ?_ | refine blk_ret ?_ | (refine thn_exit (K := K) ?_; clear hK K) | refine thn_exit ?_ | refine blk_here ?_ | refine blk_past rfl ?_ | refine thn_norm ?_ | refine blk_norm ?_ | refine CW.condT rfl ?_ | refine CW.condF rfl ?_ | (refine hK _ _ ?_; clear hK K))
    refine out2 (v1 := .int .u64 0) (v2 := .bool false) Try.results76 rfl rfl ?_ (Or.inr rfl)
    rw [e1]
    exact ⟨rfl, ⟨A, cap, hb1, hs.keep hp.chg fun a ha => (hA a ha).2.2, hA, hcap, hL⟩, hp.chg⟩
  have h3 : ¬ (L.length < at' + n) := by omega
  have e1 : rNum (L, bad) at' n = (numOf ((L.drop at').take n), true, (L, bad)) := by unfold rNum; rw [if_neg hbad, if_neg h3]
  have hl : ((L.drop at').take n).length = n := by simp; omega
  repeat (first | refine WL.nil ?_ | refine WL.auto (h := ?_) | refine WL.gskip rfl rfl rfl rfl ?_ | refine WL.gauto (h := ?_) | (refine CW.seq ?_; intro K hK) | refine CW.block ?_ | refine CW.region ?_ | refine CW.skip ?_ | refine CW.exit ?_ | refine CW.ret ?_ | (refine thn_ret (K := K) ?_; clear hK K) | refine thn_ret ?_ | refine blk_ret ?_ | (refine thn_exit (K := K) ?_; clear hK K) | refine thn_exit ?_ | refine blk_here ?_ | refine blk_past rfl ?_ | refine thn_norm ?_ | refine blk_norm ?_ | refine CW.condT rfl ?_ | refine CW.condF rfl ?_ | (refine hK _ _ ?_; clear hK K))
  refine WL.step rfl ?_
  refine OpW.sliceLoHi at' (at' + n) rfl rfl rfl rfl (by omega) (by omega) (by omega) (fun a ha => (hA a ha).1) ?_
  intro B hB
  have hsB : Sl w B (bvs ((L.drop at').take n)) := by
    have h := (hs.drop' at' (fun a ha => (hA a ha).1) B (by rcases hB with ⟨h1, h2⟩ | h1; exact Or.inl ⟨h1, by rw [bvs_length]; omega⟩; exact Or.inr (by simpa using h1))).take n
    rwa [bvs_drop, bvs_take] at h
  rw [Nat.add_sub_cancel_left]
  repeat (first | refine WL.nil ?_ | refine WL.auto (h := ?_) | refine WL.gskip rfl rfl rfl rfl ?_ | refine WL.gauto (h := ?_) | (refine CW.seq ?_; intro K hK) | refine CW.block ?_ | refine CW.region ?_ | refine CW.skip ?_ | refine CW.exit ?_ | refine CW.ret ?_ | (refine thn_ret (K := K) ?_; clear hK K) | refine thn_ret ?_ | refine blk_ret ?_ | (refine thn_exit (K := K) ?_; clear hK K) | refine thn_exit ?_ | refine blk_here ?_ | refine blk_past rfl ?_ | refine thn_norm ?_ | refine blk_norm ?_ | refine CW.condT rfl ?_ | refine CW.condF rfl ?_ | (refine hK _ _ ?_; clear hK K))
  refine CW.loop (fun m e w2 => ∃ k, k ≤ n ∧ m = n - k ∧ Grow w w2 ∧ ∃ e0, e = upd (upd (upd (upd (upd e0 0 (.pointer (some ⟨rb, 0, none⟩))) 8 (.int .u64 (numOf (((L.drop at').take n).take k)))) 40 (.slice B n (cap - at'))) 41 (.int .i64 n)) 42 (.int .i64 k)) n ?_ ?_
  · exact ⟨0, by omega, by omega, Chg.refl _ _, rep5 rfl rfl rfl rfl rfl⟩
  rintro m e w2 ⟨k, hk, rfl, hg2, e0, rfl⟩ KJ hJ
  repeat (first | refine WL.nil ?_ | refine WL.auto (h := ?_) | refine WL.gskip rfl rfl rfl rfl ?_ | refine WL.gauto (h := ?_) | (refine CW.seq ?_; intro K hK) | refine CW.block ?_ | refine CW.region ?_ | refine CW.skip ?_ | refine CW.exit ?_ | refine CW.ret ?_ | (refine thn_ret (K := K) ?_; clear hK K) | refine thn_ret ?_ | refine blk_ret ?_ | (refine thn_exit (K := K) ?_; clear hK K) | refine thn_exit ?_ | refine blk_here ?_ | refine blk_past rfl ?_ | refine thn_norm ?_ | refine blk_norm ?_ | refine CW.condT rfl ?_ | refine CW.condF rfl ?_ | (refine hK _ _ ?_; clear hK K))
  refine CW.condP rfl (fun h4 => ?_) (fun h4 => ?_)
  · have hkn : k < n := by omega
    have hkl : k < ((L.drop at').take n).length := by omega
    have hb1 : k < (bvs ((L.drop at').take n)).length := by rw [bvs_length]; exact hkl
    have hlt : numOf (((L.drop at').take n).take k) < 2 ^ 56 := by
      have := numOf_lt (((L.drop at').take n).take k)
      refine Nat.lt_of_lt_of_le this ?_
      have hle : (((L.drop at').take n).take k).length ≤ 7 := by rw [List.length_take]; omega
      exact Nat.le_trans (Nat.pow_le_pow_right (by decide) hle) (by decide)
    have hsn : numOf (((L.drop at').take n).take (k + 1)) = 256 * numOf (((L.drop at').take n).take k) + (((L.drop at').take n)[k]).toNat := by
      rw [List.take_succ_eq_append_getElem hkl, numOf_snoc]
    repeat (first | refine WL.nil ?_ | refine WL.auto (h := ?_) | refine WL.gskip rfl rfl rfl rfl ?_ | refine WL.gauto (h := ?_) | (refine CW.seq ?_; intro K hK) | refine CW.block ?_ | refine CW.region ?_ | refine CW.skip ?_ | refine CW.exit ?_ | refine CW.ret ?_ | (refine thn_ret (K := K) ?_; clear hK K) | refine thn_ret ?_ | refine blk_ret ?_ | (refine thn_exit (K := K) ?_; clear hK K) | refine thn_exit ?_ | refine blk_here ?_ | refine blk_past rfl ?_ | refine thn_norm ?_ | refine blk_norm ?_ | refine CW.condT rfl ?_ | refine CW.condF rfl ?_ | (refine hK _ _ ?_; clear hK K))
    refine WL.step rfl ?_
    refine OpW.indexAddr k rfl rfl rfl hkn (sl_ne hsB hb1) (sl_sp hsB hb1) ?_
    refine WL.step rfl ?_
    refine OpW.loadS (v := bv ((L.drop at').take n)[k]) rfl (hsB.grow hg2) (by simpa using bvs_at hkl) ?_
    repeat (first | refine WL.nil ?_ | refine WL.auto (h := ?_) | refine WL.gskip rfl rfl rfl rfl ?_ | refine WL.gauto (h := ?_) | (refine CW.seq ?_; intro K hK) | refine CW.block ?_ | refine CW.region ?_ | refine CW.skip ?_ | refine CW.exit ?_ | refine CW.ret ?_ | (refine thn_ret (K := K) ?_; clear hK K) | refine thn_ret ?_ | refine blk_ret ?_ | (refine thn_exit (K := K) ?_; clear hK K) | refine thn_exit ?_ | refine blk_here ?_ | refine blk_past rfl ?_ | refine thn_norm ?_ | refine blk_norm ?_ | refine CW.condT rfl ?_ | refine CW.condF rfl ?_ | (refine hK _ _ ?_; clear hK K))
    refine WL.step rfl ?_
    refine OpW.shl8 rfl rfl hlt ?_
    repeat (first | refine WL.nil ?_ | refine WL.auto (h := ?_) | refine WL.gskip rfl rfl rfl rfl ?_ | refine WL.gauto (h := ?_) | (refine CW.seq ?_; intro K hK) | refine CW.block ?_ | refine CW.region ?_ | refine CW.skip ?_ | refine CW.exit ?_ | refine CW.ret ?_ | (refine thn_ret (K := K) ?_; clear hK K) | refine thn_ret ?_ | refine blk_ret ?_ | (refine thn_exit (K := K) ?_; clear hK K) | refine thn_exit ?_ | refine blk_here ?_ | refine blk_past rfl ?_ | refine thn_norm ?_ | refine blk_norm ?_ | refine CW.condT rfl ?_ | refine CW.condF rfl ?_ | (refine hK _ _ ?_; clear hK K))
    refine WL.step rfl ?_
    refine OpW.convU64 rfl ⟨by omega, by have := (((L.drop at').take n)[k]).toNat_lt; omega⟩ ?_
    refine WL.step rfl ?_
    refine OpW.orByte rfl rfl hlt ?_
    repeat (first | refine WL.nil ?_ | refine WL.auto (h := ?_) | refine WL.gskip rfl rfl rfl rfl ?_ | refine WL.gauto (h := ?_) | (refine CW.seq ?_; intro K hK) | refine CW.block ?_ | refine CW.region ?_ | refine CW.skip ?_ | refine CW.exit ?_ | refine CW.ret ?_ | (refine thn_ret (K := K) ?_; clear hK K) | refine thn_ret ?_ | refine blk_ret ?_ | (refine thn_exit (K := K) ?_; clear hK K) | refine thn_exit ?_ | refine blk_here ?_ | refine blk_past rfl ?_ | refine thn_norm ?_ | refine blk_norm ?_ | refine CW.condT rfl ?_ | refine CW.condF rfl ?_ | (refine hK _ _ ?_; clear hK K))
    exact hJ (n - (k + 1)) _ _ (by omega) ⟨k + 1, by omega, rfl, hg2, rep5 rfl (congrArg (Value.int .u64) (by rw [hsn])) rfl rfl rfl⟩
  · have hkk : k = n := by omega
    subst hkk
    repeat (first | refine WL.nil ?_ | refine WL.auto (h := ?_) | refine WL.gskip rfl rfl rfl rfl ?_ | refine WL.gauto (h := ?_) | (refine CW.seq ?_; intro K hK) | refine CW.block ?_ | refine CW.region ?_ | refine CW.skip ?_ | refine CW.exit ?_ | refine CW.ret ?_ | (refine thn_ret (K := K) ?_; clear hK K) | refine thn_ret ?_ | refine blk_ret ?_ | (refine thn_exit (K := K) ?_; clear hK K) | refine thn_exit ?_ | refine blk_here ?_ | refine blk_past rfl ?_ | refine thn_norm ?_ | refine blk_norm ?_ | refine CW.condT rfl ?_ | refine CW.condF rfl ?_ | (refine hK _ _ ?_; clear hK K))
    refine out2 (v1 := .int .u64 (numOf ((L.drop at').take k))) (v2 := .bool true) Try.results76 (congrArg (Value.int .u64) (by rw [List.take_of_length_le (by omega)])) rfl ?_ (Or.inr rfl)
    rw [e1]
    exact ⟨rfl, Rd.grow ⟨A, cap, hb, hs, hA, hcap, hL⟩ hg2, Chg.to hg2⟩
end B
end Go.Proofs.Ytlofcomnhecgfaa
/- A reader's calls: N, B, T, F, Count, Left, Err, End. Sizes are bounded. -/
namespace Go.Proofs.Ytlofcomnhecgfaa
namespace B
attribute [local irreducible] OpW WL CW Ret Sl Blk thn blk outOf
set_option linter.unusedVariables false
set_option linter.unusedSimpArgs false

theorem rNum_false {s s' : RS} {a n x : Nat} (h : rNum s a n = (x, false, s')) : x = 0 := by
  unfold rNum at h
  split at h
  · simp only [Prod.mk.injEq] at h; exact h.1.symm
  · split at h
    · simp only [Prod.mk.injEq] at h; exact h.1.symm
    · simp only [Prod.mk.injEq, Bool.true_eq_false, false_and, and_false] at h
theorem rNum_true {s s' : RS} {a n x : Nat} (h : rNum s a n = (x, true, s')) : s' = s ∧ s.2 = 0 ∧ a + n ≤ s.1.length ∧ x = numOf ((s.1.drop a).take n) := by
  unfold rNum at h
  split at h
  · simp only [Prod.mk.injEq, Bool.false_eq_true, false_and, and_false] at h
  · rename_i h0
    split at h
    · simp only [Prod.mk.injEq, Bool.false_eq_true, false_and, and_false] at h
    · simp only [Prod.mk.injEq, true_and] at h
      exact ⟨h.2.symm, by simpa using h0, by omega, h.1.symm⟩

/-- 'r.b = r.b[m:]', what stands in the reader's block turned. -/
theorem Rd.cut {w w' : World} {rb m : Nat} {L : List UInt8} {bad : Int} {A B : Option Addr} {cap : Nat} {Z : Nat → Prop} (hs : Sl w A (bvs L)) (hA : ∀ a, A = some a → a.spot = none ∧ Z a.block ∧ a.block ≠ rb) (hcap : L.length ≤ cap) (hL : L.length ≤ 70368744177664) (hm : m ≤ L.length) (hB : B = A ∧ cap = m ∨ B = at_ A (m * 1))
    (hp : Put w w' rb) (hb : Blk w' rb #[.slice B (L.length - m) (cap - m), .int .i64 bad] 115) : Rd w' rb (L.drop m, bad) Z := by
  have hs' : Sl w B (bvs (L.drop m)) := by
    rw [← bvs_drop]
    refine hs.drop' m (fun a ha => (hA a ha).1) B ?_
    rcases hB with ⟨h1, h2⟩ | h1
    · exact Or.inl ⟨h1, by rw [bvs_length]; omega⟩
    · exact Or.inr (by simpa using h1)
  have hB' : ∀ a, B = some a → a.spot = none ∧ Z a.block ∧ a.block ≠ rb := by
    intro b hb
    rcases hB with ⟨rfl, _⟩ | rfl
    · exact hA b hb
    · cases A with
      | none => simp [at_] at hb
      | some a => simp only [at_, Option.map_some, Option.some.injEq] at hb; subst hb; exact ⟨rfl, (hA a rfl).2⟩
  refine ⟨B, cap - m, ?_, hs'.keep hp.chg fun a ha => (hB' a ha).2.2, hB', ?_, ?_⟩
  · simpa using hb
  · simp; omega
  · simp; omega

theorem N44 (rb : Nat) (s : RS) (Z : Nat → Prop) (w : World) (hr : Rd w rb s Z) : Ret Try.prog 44 #[.pointer (some ⟨rb, 0, none⟩)] w fun v w' => v = .int .u64 ((rN s).1 : Int) ∧ Rd w' rb (rN s).2 Z ∧ Chg (· = rb) w w' := by
  refine Ret.enter (fn := Try.f44) (N := 20) Try.func44 rfl Try.ntmps44 rfl ?_
  obtain ⟨x, ok, s', hq⟩ : ∃ x ok s', rNum s 0 8 = (x, ok, s') := ⟨_, _, _, rfl⟩
  repeat (first | refine WL.nil ?_ | refine WL.auto (h := ?_) | refine WL.gskip rfl rfl rfl rfl ?_ | refine WL.gauto (h := ?_) | (refine CW.seq ?_; intro K hK) | refine CW.block ?_ | refine CW.region ?_ | refine CW.skip ?_ | refine CW.exit ?_ | refine CW.ret ?_ | (refine thn_ret (K := K) ?_; clear hK K) | refine thn_ret ?_ | refine blk_ret ?_ | (refine thn_exit (K := K) ?_; clear hK K) | refine thn_exit ?_ | refine blk_here ?_ | refine blk_past rfl ?_ | refine thn_norm ?_ | refine blk_norm ?_ | refine CW.condT rfl ?_ | refine CW.condF rfl ?_ | (refine hK _ _ ?_; clear hK K))
  refine WL.step rfl ?_
  refine OpW.call ((number76 rb s 0 8 Z w hr (by decide) (by decide)).mono ?_) rfl
  rintro v w1 ⟨rfl, hr1, hc1⟩
  rw [hq] at hr1 ⊢
  repeat (first | refine WL.nil ?_ | refine WL.auto (h := ?_) | refine WL.gskip rfl rfl rfl rfl ?_ | refine WL.gauto (h := ?_) | (refine CW.seq ?_; intro K hK) | refine CW.block ?_ | refine CW.region ?_ | refine CW.skip ?_ | refine CW.exit ?_ | refine CW.ret ?_ | (refine thn_ret (K := K) ?_; clear hK K) | refine thn_ret ?_ | refine blk_ret ?_ | (refine thn_exit (K := K) ?_; clear hK K) | refine thn_exit ?_ | refine blk_here ?_ | refine blk_past rfl ?_ | refine thn_norm ?_ | refine blk_norm ?_ | refine CW.condT rfl ?_ | refine CW.condF rfl ?_ | (refine hK _ _ ?_; clear hK K))
  refine CW.cond rfl (fun h1 => ?_) (fun h1 => ?_)
  · simp only at h1
    subst h1
    obtain ⟨rfl, hb0, hlen, hx⟩ := rNum_true hq
    obtain ⟨L, bad⟩ := s'
    obtain ⟨A, cap, hb, hs, hA, hcap, hL⟩ := hr1
    simp only at hb hs hcap hL hlen
    have e1 : rN (L, bad) = (x, (L.drop 8, bad)) := by simp [rN, hq]
    repeat (first | refine WL.nil ?_ | refine WL.auto (h := ?_) | refine WL.gskip rfl rfl rfl rfl ?_ | refine WL.gauto (h := ?_) | (refine CW.seq ?_; intro K hK) | refine CW.block ?_ | refine CW.region ?_ | refine CW.skip ?_ | refine CW.exit ?_ | refine CW.ret ?_ | (refine thn_ret (K := K) ?_; clear hK K) | refine thn_ret ?_ | refine blk_ret ?_ | (refine thn_exit (K := K) ?_; clear hK K) | refine thn_exit ?_ | refine blk_here ?_ | refine blk_past rfl ?_ | refine thn_norm ?_ | refine blk_norm ?_ | refine CW.condT rfl ?_ | refine CW.condF rfl ?_ | (refine hK _ _ ?_; clear hK K))
    refine WL.step rfl ?_
    refine OpW.sliceLo 8 rfl rfl rfl (by omega) (fun a ha => (hA a ha).1) ?_
    intro B hB
    repeat (first | refine WL.nil ?_ | refine WL.auto (h := ?_) | refine WL.gskip rfl rfl rfl rfl ?_ | refine WL.gauto (h := ?_) | (refine CW.seq ?_; intro K hK) | refine CW.block ?_ | refine CW.region ?_ | refine CW.skip ?_ | refine CW.exit ?_ | refine CW.ret ?_ | (refine thn_ret (K := K) ?_; clear hK K) | refine thn_ret ?_ | refine blk_ret ?_ | (refine thn_exit (K := K) ?_; clear hK K) | refine thn_exit ?_ | refine blk_here ?_ | refine blk_past rfl ?_ | refine thn_norm ?_ | refine blk_norm ?_ | refine CW.condT rfl ?_ | refine CW.condF rfl ?_ | (refine hK _ _ ?_; clear hK K))
    refine WL.step0 ?_
    refine OpW.store (v := .slice _ _ _) rfl rfl rfl hb rfl (c' := #[_, _]) rfl ?_
    intro w2 hp hb2
    repeat (first | refine WL.nil ?_ | refine WL.auto (h := ?_) | refine WL.gskip rfl rfl rfl rfl ?_ | refine WL.gauto (h := ?_) | (refine CW.seq ?_; intro K hK) | refine CW.block ?_ | refine CW.region ?_ | refine CW.skip ?_ | refine CW.exit ?_ | refine CW.ret ?_ | (refine thn_ret (K := K) ?_; clear hK K) | refine thn_ret ?_ | refine blk_ret ?_ | (refine thn_exit (K := K) ?_; clear hK K) | refine thn_exit ?_ | refine blk_here ?_ | refine blk_past rfl ?_ | refine thn_norm ?_ | refine blk_norm ?_ | refine CW.condT rfl ?_ | refine CW.condF rfl ?_ | (refine hK _ _ ?_; clear hK K))
    refine out1 (v := .int .u64 x) Try.results44 rfl ?_ (Or.inr rfl)
    rw [e1]
    exact ⟨rfl, Rd.cut hs hA hcap hL (by omega) hB hp hb2, hc1.andThen hp.chg⟩
  · simp only at h1
    subst h1
    have hx := rNum_false hq
    subst hx
    have e1 : rN s = (0, s') := by simp [rN, hq]
    repeat (first | refine WL.nil ?_ | refine WL.auto (h := ?_) | refine WL.gskip rfl rfl rfl rfl ?_ | refine WL.gauto (h := ?_) | (refine CW.seq ?_; intro K hK) | refine CW.block ?_ | refine CW.region ?_ | refine CW.skip ?_ | refine CW.exit ?_ | refine CW.ret ?_ | (refine thn_ret (K := K) ?_; clear hK K) | refine thn_ret ?_ | refine blk_ret ?_ | (refine thn_exit (K := K) ?_; clear hK K) | refine thn_exit ?_ | refine blk_here ?_ | refine blk_past rfl ?_ | refine thn_norm ?_ | refine blk_norm ?_ | refine CW.condT rfl ?_ | refine CW.condF rfl ?_ | (refine hK _ _ ?_; clear hK K))
    refine out1 (v := .int .u64 0) Try.results44 rfl ?_ (Or.inr rfl)
    rw [e1]
    exact ⟨rfl, hr1, hc1⟩

theorem Count55 (rb : Nat) (s : RS) (most : Int) (Z : Nat → Prop) (w : World) (hr : Rd w rb s Z) (hmost : -9223372036854775808 ≤ most ∧ most ≤ 9223372036854775807) : Ret Try.prog 55 #[.pointer (some ⟨rb, 0, none⟩), .int .i64 most] w fun v w' => v = .int .i64 (rCount s most).1 ∧ Rd w' rb (rCount s most).2 Z ∧ Chg (· = rb) w w' := by
  refine Ret.enter (fn := Try.f55) (N := 35) Try.func55 rfl Try.ntmps55 rfl ?_
  obtain ⟨x, ok, s', hq⟩ : ∃ x ok s', rNum s 0 8 = (x, ok, s') := ⟨_, _, _, rfl⟩
  repeat (first | refine WL.nil ?_ | refine WL.auto (h := ?_) | refine WL.gskip rfl rfl rfl rfl ?_ | refine WL.gauto (h := ?_) | (refine CW.seq ?_; intro K hK) | refine CW.block ?_ | refine CW.region ?_ | refine CW.skip ?_ | refine CW.exit ?_ | refine CW.ret ?_ | (refine thn_ret (K := K) ?_; clear hK K) | refine thn_ret ?_ | refine blk_ret ?_ | (refine thn_exit (K := K) ?_; clear hK K) | refine thn_exit ?_ | refine blk_here ?_ | refine blk_past rfl ?_ | refine thn_norm ?_ | refine blk_norm ?_ | refine CW.condT rfl ?_ | refine CW.condF rfl ?_ | (refine hK _ _ ?_; clear hK K))
  refine WL.step rfl ?_
  refine OpW.call ((number76 rb s 0 8 Z w hr (by decide) (by decide)).mono ?_) rfl
  rintro v w1 ⟨rfl, hr1, hc1⟩
  rw [hq] at hr1 ⊢
  cases ok with
  | false =>
    have hx := rNum_false hq
    subst hx
    have e1 : rCount s most = (0, s') := by simp [rCount, hq]
    repeat (first | refine WL.nil ?_ | refine WL.auto (h := ?_) | refine WL.gskip rfl rfl rfl rfl ?_ | refine WL.gauto (h := ?_) | (refine CW.seq ?_; intro K hK) | refine CW.block ?_ | refine CW.region ?_ | refine CW.skip ?_ | refine CW.exit ?_ | refine CW.ret ?_ | (refine thn_ret (K := K) ?_; clear hK K) | refine thn_ret ?_ | refine blk_ret ?_ | (refine thn_exit (K := K) ?_; clear hK K) | refine thn_exit ?_ | refine blk_here ?_ | refine blk_past rfl ?_ | refine thn_norm ?_ | refine blk_norm ?_ | refine CW.condT rfl ?_ | refine CW.condF rfl ?_ | (refine hK _ _ ?_; clear hK K))
    refine out1 (v := .int .i64 0) Try.results55 rfl ?_ (Or.inr rfl)
    rw [e1]
    exact ⟨rfl, hr1, hc1⟩
  | true =>
    obtain ⟨rfl, hb0, hlen, hx⟩ := rNum_true hq
    obtain ⟨L, bad⟩ := s'
    obtain ⟨A, cap, hb, hs, hA, hcap, hL⟩ := hr1
    simp only at hb hs hcap hL hlen
    by_cases hm0 : most < 0
    · have e1 : rCount (L, bad) most = (0, (L, 22)) := by simp [rCount, hq, hm0]
      repeat (first | refine WL.nil ?_ | refine WL.auto (h := ?_) | refine WL.gskip rfl rfl rfl rfl ?_ | refine WL.gauto (h := ?_) | (refine CW.seq ?_; intro K hK) | refine CW.block ?_ | refine CW.region ?_ | refine CW.skip ?_ | refine CW.exit ?_ | refine CW.ret ?_ | (refine thn_ret (K := K) ?_; clear hK K) | refine thn_ret ?_ | refine blk_ret ?_ | (refine thn_exit (K := K) ?_; clear hK K) | refine thn_exit ?_ | refine blk_here ?_ | refine blk_past rfl ?_ | refine thn_norm ?_ | refine blk_norm ?_ | refine CW.condT rfl ?_ | refine CW.condF rfl ?_ | (refine hK _ _ ?_; clear hK K))
      rw [show decide (most < 0) = true from decide_eq_true hm0]
      repeat (first | refine WL.nil ?_ | refine WL.auto (h := ?_) | refine WL.gskip rfl rfl rfl rfl ?_ | refine WL.gauto (h := ?_) | (refine CW.seq ?_; intro K hK) | refine CW.block ?_ | refine CW.region ?_ | refine CW.skip ?_ | refine CW.exit ?_ | refine CW.ret ?_ | (refine thn_ret (K := K) ?_; clear hK K) | refine thn_ret ?_ | refine blk_ret ?_ | (refine thn_exit (K := K) ?_; clear hK K) | refine thn_exit ?_ | refine blk_here ?_ | refine blk_past rfl ?_ | refine thn_norm ?_ | refine blk_norm ?_ | refine CW.condT rfl ?_ | refine CW.condF rfl ?_ | (refine hK _ _ ?_; clear hK K))
      refine WL.step0 ?_
      refine OpW.store (v := .int _ _) rfl rfl rfl hb rfl (c' := #[_, _]) rfl ?_
      intro w2 hp hb2
      repeat (first | refine WL.nil ?_ | refine WL.auto (h := ?_) | refine WL.gskip rfl rfl rfl rfl ?_ | refine WL.gauto (h := ?_) | (refine CW.seq ?_; intro K hK) | refine CW.block ?_ | refine CW.region ?_ | refine CW.skip ?_ | refine CW.exit ?_ | refine CW.ret ?_ | (refine thn_ret (K := K) ?_; clear hK K) | refine thn_ret ?_ | refine blk_ret ?_ | (refine thn_exit (K := K) ?_; clear hK K) | refine thn_exit ?_ | refine blk_here ?_ | refine blk_past rfl ?_ | refine thn_norm ?_ | refine blk_norm ?_ | refine CW.condT rfl ?_ | refine CW.condF rfl ?_ | (refine hK _ _ ?_; clear hK K))
      refine out1 (v := .int .i64 0) Try.results55 rfl ?_ (Or.inr rfl)
      rw [e1]
      exact ⟨rfl, ⟨A, cap, hb2, hs.keep hp.chg fun a ha => (hA a ha).2.2, hA, hcap, hL⟩, hc1.andThen hp.chg⟩
    · have hx8 : x < 18446744073709551616 := by
        rw [hx]
        have := numOf_lt ((L.drop 0).take 8)
        have hle : ((L.drop 0).take 8).length ≤ 8 := by rw [List.length_take]; omega
        exact Nat.lt_of_lt_of_le this (Nat.le_trans (Nat.pow_le_pow_right (by decide) hle) (by decide))
      by_cases hm1 : most < (x : Int)
      · have e1 : rCount (L, bad) most = (0, (L, 22)) := by simp [rCount, hq, hm1]
        repeat (first | refine WL.nil ?_ | refine WL.auto (h := ?_) | refine WL.gskip rfl rfl rfl rfl ?_ | refine WL.gauto (h := ?_) | (refine CW.seq ?_; intro K hK) | refine CW.block ?_ | refine CW.region ?_ | refine CW.skip ?_ | refine CW.exit ?_ | refine CW.ret ?_ | (refine thn_ret (K := K) ?_; clear hK K) | refine thn_ret ?_ | refine blk_ret ?_ | (refine thn_exit (K := K) ?_; clear hK K) | refine thn_exit ?_ | refine blk_here ?_ | refine blk_past rfl ?_ | refine thn_norm ?_ | refine blk_norm ?_ | refine CW.condT rfl ?_ | refine CW.condF rfl ?_ | (refine hK _ _ ?_; clear hK K))
        rw [show decide (most < 0) = false from decide_eq_false hm0]
        repeat (first | refine WL.nil ?_ | refine WL.auto (h := ?_) | refine WL.gskip rfl rfl rfl rfl ?_ | refine WL.gauto (h := ?_) | (refine CW.seq ?_; intro K hK) | refine CW.block ?_ | refine CW.region ?_ | refine CW.skip ?_ | refine CW.exit ?_ | refine CW.ret ?_ | (refine thn_ret (K := K) ?_; clear hK K) | refine thn_ret ?_ | refine blk_ret ?_ | (refine thn_exit (K := K) ?_; clear hK K) | refine thn_exit ?_ | refine blk_here ?_ | refine blk_past rfl ?_ | refine thn_norm ?_ | refine blk_norm ?_ | refine CW.condT rfl ?_ | refine CW.condF rfl ?_ | (refine hK _ _ ?_; clear hK K))
        rw [show decide (most < (x : Int)) = true from decide_eq_true hm1]
        repeat (first | refine WL.nil ?_ | refine WL.auto (h := ?_) | refine WL.gskip rfl rfl rfl rfl ?_ | refine WL.gauto (h := ?_) | (refine CW.seq ?_; intro K hK) | refine CW.block ?_ | refine CW.region ?_ | refine CW.skip ?_ | refine CW.exit ?_ | refine CW.ret ?_ | (refine thn_ret (K := K) ?_; clear hK K) | refine thn_ret ?_ | refine blk_ret ?_ | (refine thn_exit (K := K) ?_; clear hK K) | refine thn_exit ?_ | refine blk_here ?_ | refine blk_past rfl ?_ | refine thn_norm ?_ | refine blk_norm ?_ | refine CW.condT rfl ?_ | refine CW.condF rfl ?_ | (refine hK _ _ ?_; clear hK K))
        refine WL.step0 ?_
        refine OpW.store (v := .int _ _) rfl rfl rfl hb rfl (c' := #[_, _]) rfl ?_
        intro w2 hp hb2
        repeat (first | refine WL.nil ?_ | refine WL.auto (h := ?_) | refine WL.gskip rfl rfl rfl rfl ?_ | refine WL.gauto (h := ?_) | (refine CW.seq ?_; intro K hK) | refine CW.block ?_ | refine CW.region ?_ | refine CW.skip ?_ | refine CW.exit ?_ | refine CW.ret ?_ | (refine thn_ret (K := K) ?_; clear hK K) | refine thn_ret ?_ | refine blk_ret ?_ | (refine thn_exit (K := K) ?_; clear hK K) | refine thn_exit ?_ | refine blk_here ?_ | refine blk_past rfl ?_ | refine thn_norm ?_ | refine blk_norm ?_ | refine CW.condT rfl ?_ | refine CW.condF rfl ?_ | (refine hK _ _ ?_; clear hK K))
        refine out1 (v := .int .i64 0) Try.results55 rfl ?_ (Or.inr rfl)
        rw [e1]
        exact ⟨rfl, ⟨A, cap, hb2, hs.keep hp.chg fun a ha => (hA a ha).2.2, hA, hcap, hL⟩, hc1.andThen hp.chg⟩
      · have e1 : rCount (L, bad) most = ((x : Int), (L.drop 8, bad)) := by simp [rCount, hq, hm1, hm0]
        repeat (first | refine WL.nil ?_ | refine WL.auto (h := ?_) | refine WL.gskip rfl rfl rfl rfl ?_ | refine WL.gauto (h := ?_) | (refine CW.seq ?_; intro K hK) | refine CW.block ?_ | refine CW.region ?_ | refine CW.skip ?_ | refine CW.exit ?_ | refine CW.ret ?_ | (refine thn_ret (K := K) ?_; clear hK K) | refine thn_ret ?_ | refine blk_ret ?_ | (refine thn_exit (K := K) ?_; clear hK K) | refine thn_exit ?_ | refine blk_here ?_ | refine blk_past rfl ?_ | refine thn_norm ?_ | refine blk_norm ?_ | refine CW.condT rfl ?_ | refine CW.condF rfl ?_ | (refine hK _ _ ?_; clear hK K))
        rw [show decide (most < 0) = false from decide_eq_false hm0]
        repeat (first | refine WL.nil ?_ | refine WL.auto (h := ?_) | refine WL.gskip rfl rfl rfl rfl ?_ | refine WL.gauto (h := ?_) | (refine CW.seq ?_; intro K hK) | refine CW.block ?_ | refine CW.region ?_ | refine CW.skip ?_ | refine CW.exit ?_ | refine CW.ret ?_ | (refine thn_ret (K := K) ?_; clear hK K) | refine thn_ret ?_ | refine blk_ret ?_ | (refine thn_exit (K := K) ?_; clear hK K) | refine thn_exit ?_ | refine blk_here ?_ | refine blk_past rfl ?_ | refine thn_norm ?_ | refine blk_norm ?_ | refine CW.condT rfl ?_ | refine CW.condF rfl ?_ | (refine hK _ _ ?_; clear hK K))
        rw [show decide (most < (x : Int)) = false from decide_eq_false hm1]
        repeat (first | refine WL.nil ?_ | refine WL.auto (h := ?_) | refine WL.gskip rfl rfl rfl rfl ?_ | refine WL.gauto (h := ?_) | (refine CW.seq ?_; intro K hK) | refine CW.block ?_ | refine CW.region ?_ | refine CW.skip ?_ | refine CW.exit ?_ | refine CW.ret ?_ | (refine thn_ret (K := K) ?_; clear hK K) | refine thn_ret ?_ | refine blk_ret ?_ | (refine thn_exit (K := K) ?_; clear hK K) | refine thn_exit ?_ | refine blk_here ?_ | refine blk_past rfl ?_ | refine thn_norm ?_ | refine blk_norm ?_ | refine CW.condT rfl ?_ | refine CW.condF rfl ?_ | (refine hK _ _ ?_; clear hK K))
        refine WL.step rfl ?_
        refine OpW.sliceLo 8 rfl rfl rfl (by omega) (fun a ha => (hA a ha).1) ?_
        intro B hB
        repeat (first | refine WL.nil ?_ | refine WL.auto (h := ?_) | refine WL.gskip rfl rfl rfl rfl ?_ | refine WL.gauto (h := ?_) | (refine CW.seq ?_; intro K hK) | refine CW.block ?_ | refine CW.region ?_ | refine CW.skip ?_ | refine CW.exit ?_ | refine CW.ret ?_ | (refine thn_ret (K := K) ?_; clear hK K) | refine thn_ret ?_ | refine blk_ret ?_ | (refine thn_exit (K := K) ?_; clear hK K) | refine thn_exit ?_ | refine blk_here ?_ | refine blk_past rfl ?_ | refine thn_norm ?_ | refine blk_norm ?_ | refine CW.condT rfl ?_ | refine CW.condF rfl ?_ | (refine hK _ _ ?_; clear hK K))
        refine WL.step0 ?_
        refine OpW.store (v := .slice _ _ _) rfl rfl rfl hb rfl (c' := #[_, _]) rfl ?_
        intro w2 hp hb2
        repeat (first | refine WL.nil ?_ | refine WL.auto (h := ?_) | refine WL.gskip rfl rfl rfl rfl ?_ | refine WL.gauto (h := ?_) | (refine CW.seq ?_; intro K hK) | refine CW.block ?_ | refine CW.region ?_ | refine CW.skip ?_ | refine CW.exit ?_ | refine CW.ret ?_ | (refine thn_ret (K := K) ?_; clear hK K) | refine thn_ret ?_ | refine blk_ret ?_ | (refine thn_exit (K := K) ?_; clear hK K) | refine thn_exit ?_ | refine blk_here ?_ | refine blk_past rfl ?_ | refine thn_norm ?_ | refine blk_norm ?_ | refine CW.condT rfl ?_ | refine CW.condF rfl ?_ | (refine hK _ _ ?_; clear hK K))
        refine out1 (v := .int .i64 x) Try.results55 rfl ?_ (Or.inr rfl)
        rw [e1]
        exact ⟨rfl, Rd.cut hs hA hcap hL (by omega) hB hp hb2, hc1.andThen hp.chg⟩

theorem F47 (rb : Nat) (s : RS) (Z : Nat → Prop) (w : World) (hr : Rd w rb s Z) : Ret Try.prog 47 #[.pointer (some ⟨rb, 0, none⟩)] w fun v w' => v = .bool (rF s).1 ∧ Rd w' rb (rF s).2 Z ∧ Chg (· = rb) w w' := by
  refine Ret.enter (fn := Try.f47) (N := 27) Try.func47 rfl Try.ntmps47 rfl ?_
  obtain ⟨x, ok, s', hq⟩ : ∃ x ok s', rNum s 0 1 = (x, ok, s') := ⟨_, _, _, rfl⟩
  repeat (first | refine WL.nil ?_ | refine WL.auto (h := ?_) | refine WL.gskip rfl rfl rfl rfl ?_ | refine WL.gauto (h := ?_) | (refine CW.seq ?_; intro K hK) | refine CW.block ?_ | refine CW.region ?_ | refine CW.skip ?_ | refine CW.exit ?_ | refine CW.ret ?_ | (refine thn_ret (K := K) ?_; clear hK K) | refine thn_ret ?_ | refine blk_ret ?_ | (refine thn_exit (K := K) ?_; clear hK K) | refine thn_exit ?_ | refine blk_here ?_ | refine blk_past rfl ?_ | refine thn_norm ?_ | refine blk_norm ?_ | refine CW.condT rfl ?_ | refine CW.condF rfl ?_ | (refine hK _ _ ?_; clear hK K))
  refine WL.step rfl ?_
  refine OpW.call ((number76 rb s 0 1 Z w hr (by decide) (by decide)).mono ?_) rfl
  rintro v w1 ⟨rfl, hr1, hc1⟩
  rw [hq] at hr1 ⊢
  cases ok with
  | false =>
    have hx := rNum_false hq
    subst hx
    have e1 : rF s = (false, s') := by simp [rF, hq]
    repeat (first | refine WL.nil ?_ | refine WL.auto (h := ?_) | refine WL.gskip rfl rfl rfl rfl ?_ | refine WL.gauto (h := ?_) | (refine CW.seq ?_; intro K hK) | refine CW.block ?_ | refine CW.region ?_ | refine CW.skip ?_ | refine CW.exit ?_ | refine CW.ret ?_ | (refine thn_ret (K := K) ?_; clear hK K) | refine thn_ret ?_ | refine blk_ret ?_ | (refine thn_exit (K := K) ?_; clear hK K) | refine thn_exit ?_ | refine blk_here ?_ | refine blk_past rfl ?_ | refine thn_norm ?_ | refine blk_norm ?_ | refine CW.condT rfl ?_ | refine CW.condF rfl ?_ | (refine hK _ _ ?_; clear hK K))
    refine out1 (v := .bool false) Try.results47 rfl ?_ (Or.inr rfl)
    rw [e1]
    exact ⟨rfl, hr1, hc1⟩
  | true =>
    obtain ⟨rfl, hb0, hlen, hx⟩ := rNum_true hq
    obtain ⟨L, bad⟩ := s'
    obtain ⟨A, cap, hb, hs, hA, hcap, hL⟩ := hr1
    simp only at hb hs hcap hL hlen
    repeat (first | refine WL.nil ?_ | refine WL.auto (h := ?_) | refine WL.gskip rfl rfl rfl rfl ?_ | refine WL.gauto (h := ?_) | (refine CW.seq ?_; intro K hK) | refine CW.block ?_ | refine CW.region ?_ | refine CW.skip ?_ | refine CW.exit ?_ | refine CW.ret ?_ | (refine thn_ret (K := K) ?_; clear hK K) | refine thn_ret ?_ | refine blk_ret ?_ | (refine thn_exit (K := K) ?_; clear hK K) | refine thn_exit ?_ | refine blk_here ?_ | refine blk_past rfl ?_ | refine thn_norm ?_ | refine blk_norm ?_ | refine CW.condT rfl ?_ | refine CW.condF rfl ?_ | (refine hK _ _ ?_; clear hK K))
    refine CW.condP (p := (1 : Int) < (x : Int)) rfl (fun h1 => ?_) (fun h1 => ?_)
    · have e1 : rF (L, bad) = (false, (L, 21)) := by simp only [rF, hq, if_true]; rw [if_pos (by omega)]
      repeat (first | refine WL.nil ?_ | refine WL.auto (h := ?_) | refine WL.gskip rfl rfl rfl rfl ?_ | refine WL.gauto (h := ?_) | (refine CW.seq ?_; intro K hK) | refine CW.block ?_ | refine CW.region ?_ | refine CW.skip ?_ | refine CW.exit ?_ | refine CW.ret ?_ | (refine thn_ret (K := K) ?_; clear hK K) | refine thn_ret ?_ | refine blk_ret ?_ | (refine thn_exit (K := K) ?_; clear hK K) | refine thn_exit ?_ | refine blk_here ?_ | refine blk_past rfl ?_ | refine thn_norm ?_ | refine blk_norm ?_ | refine CW.condT rfl ?_ | refine CW.condF rfl ?_ | (refine hK _ _ ?_; clear hK K))
      refine WL.step0 ?_
      refine OpW.store (v := .int _ _) rfl rfl rfl hb rfl (c' := #[_, _]) rfl ?_
      intro w2 hp hb2
      repeat (first | refine WL.nil ?_ | refine WL.auto (h := ?_) | refine WL.gskip rfl rfl rfl rfl ?_ | refine WL.gauto (h := ?_) | (refine CW.seq ?_; intro K hK) | refine CW.block ?_ | refine CW.region ?_ | refine CW.skip ?_ | refine CW.exit ?_ | refine CW.ret ?_ | (refine thn_ret (K := K) ?_; clear hK K) | refine thn_ret ?_ | refine blk_ret ?_ | (refine thn_exit (K := K) ?_; clear hK K) | refine thn_exit ?_ | refine blk_here ?_ | refine blk_past rfl ?_ | refine thn_norm ?_ | refine blk_norm ?_ | refine CW.condT rfl ?_ | refine CW.condF rfl ?_ | (refine hK _ _ ?_; clear hK K))
      refine out1 (v := .bool false) Try.results47 rfl ?_ (Or.inr rfl)
      rw [e1]
      exact ⟨rfl, ⟨A, cap, hb2, hs.keep hp.chg fun a ha => (hA a ha).2.2, hA, hcap, hL⟩, hc1.andThen hp.chg⟩
    · have e1 : rF (L, bad) = (decide (x = 1), (L.drop 1, bad)) := by simp only [rF, hq, if_true]; rw [if_neg (by omega)]
      repeat (first | refine WL.nil ?_ | refine WL.auto (h := ?_) | refine WL.gskip rfl rfl rfl rfl ?_ | refine WL.gauto (h := ?_) | (refine CW.seq ?_; intro K hK) | refine CW.block ?_ | refine CW.region ?_ | refine CW.skip ?_ | refine CW.exit ?_ | refine CW.ret ?_ | (refine thn_ret (K := K) ?_; clear hK K) | refine thn_ret ?_ | refine blk_ret ?_ | (refine thn_exit (K := K) ?_; clear hK K) | refine thn_exit ?_ | refine blk_here ?_ | refine blk_past rfl ?_ | refine thn_norm ?_ | refine blk_norm ?_ | refine CW.condT rfl ?_ | refine CW.condF rfl ?_ | (refine hK _ _ ?_; clear hK K))
      refine WL.step rfl ?_
      refine OpW.sliceLo 1 rfl rfl rfl (by omega) (fun a ha => (hA a ha).1) ?_
      intro B hB
      repeat (first | refine WL.nil ?_ | refine WL.auto (h := ?_) | refine WL.gskip rfl rfl rfl rfl ?_ | refine WL.gauto (h := ?_) | (refine CW.seq ?_; intro K hK) | refine CW.block ?_ | refine CW.region ?_ | refine CW.skip ?_ | refine CW.exit ?_ | refine CW.ret ?_ | (refine thn_ret (K := K) ?_; clear hK K) | refine thn_ret ?_ | refine blk_ret ?_ | (refine thn_exit (K := K) ?_; clear hK K) | refine thn_exit ?_ | refine blk_here ?_ | refine blk_past rfl ?_ | refine thn_norm ?_ | refine blk_norm ?_ | refine CW.condT rfl ?_ | refine CW.condF rfl ?_ | (refine hK _ _ ?_; clear hK K))
      refine WL.step0 ?_
      refine OpW.store (v := .slice _ _ _) rfl rfl rfl hb rfl (c' := #[_, _]) rfl ?_
      intro w2 hp hb2
      repeat (first | refine WL.nil ?_ | refine WL.auto (h := ?_) | refine WL.gskip rfl rfl rfl rfl ?_ | refine WL.gauto (h := ?_) | (refine CW.seq ?_; intro K hK) | refine CW.block ?_ | refine CW.region ?_ | refine CW.skip ?_ | refine CW.exit ?_ | refine CW.ret ?_ | (refine thn_ret (K := K) ?_; clear hK K) | refine thn_ret ?_ | refine blk_ret ?_ | (refine thn_exit (K := K) ?_; clear hK K) | refine thn_exit ?_ | refine blk_here ?_ | refine blk_past rfl ?_ | refine thn_norm ?_ | refine blk_norm ?_ | refine CW.condT rfl ?_ | refine CW.condF rfl ?_ | (refine hK _ _ ?_; clear hK K))
      refine out1 (v := .bool (decide ((x : Int) = 1))) Try.results47 rfl ?_ (Or.inr rfl)
      rw [e1]
      refine ⟨?_, Rd.cut hs hA hcap hL (by omega) hB hp hb2, hc1.andThen hp.chg⟩
      congr 1
      rw [Bool.eq_iff_iff]; simp; omega

theorem Left49 (rb : Nat) (s : RS) (Z : Nat → Prop) (w : World) (hr : Rd w rb s Z) : Ret Try.prog 49 #[.pointer (some ⟨rb, 0, none⟩)] w fun v w' => v = .int .i64 (s.1.length : Int) ∧ Grow w w' := by
  refine Ret.enter (fn := Try.f49) (N := 10) Try.func49 rfl Try.ntmps49 rfl ?_
  obtain ⟨A, cap, hb, hs, hA, hcap, hL⟩ := hr
  repeat (first | refine WL.nil ?_ | refine WL.auto (h := ?_) | refine WL.gskip rfl rfl rfl rfl ?_ | refine WL.gauto (h := ?_) | (refine CW.seq ?_; intro K hK) | refine CW.block ?_ | refine CW.region ?_ | refine CW.skip ?_ | refine CW.exit ?_ | refine CW.ret ?_ | (refine thn_ret (K := K) ?_; clear hK K) | refine thn_ret ?_ | refine blk_ret ?_ | (refine thn_exit (K := K) ?_; clear hK K) | refine thn_exit ?_ | refine blk_here ?_ | refine blk_past rfl ?_ | refine thn_norm ?_ | refine blk_norm ?_ | refine CW.condT rfl ?_ | refine CW.condF rfl ?_ | (refine hK _ _ ?_; clear hK K))
  exact out1 (v := .int .i64 _) Try.results49 rfl ⟨rfl, Chg.refl _ _⟩ (Or.inr rfl)
theorem Err54 (rb : Nat) (s : RS) (Z : Nat → Prop) (w : World) (hr : Rd w rb s Z) : Ret Try.prog 54 #[.pointer (some ⟨rb, 0, none⟩)] w fun v w' => v = .int .i64 s.2 ∧ Grow w w' := by
  refine Ret.enter (fn := Try.f54) (N := 9) Try.func54 rfl Try.ntmps54 rfl ?_
  obtain ⟨A, cap, hb, hs, hA, hcap, hL⟩ := hr
  repeat (first | refine WL.nil ?_ | refine WL.auto (h := ?_) | refine WL.gskip rfl rfl rfl rfl ?_ | refine WL.gauto (h := ?_) | (refine CW.seq ?_; intro K hK) | refine CW.block ?_ | refine CW.region ?_ | refine CW.skip ?_ | refine CW.exit ?_ | refine CW.ret ?_ | (refine thn_ret (K := K) ?_; clear hK K) | refine thn_ret ?_ | refine blk_ret ?_ | (refine thn_exit (K := K) ?_; clear hK K) | refine thn_exit ?_ | refine blk_here ?_ | refine blk_past rfl ?_ | refine thn_norm ?_ | refine blk_norm ?_ | refine CW.condT rfl ?_ | refine CW.condF rfl ?_ | (refine hK _ _ ?_; clear hK K))
  exact out1 (v := .int .i64 _) Try.results54 rfl ⟨rfl, Chg.refl _ _⟩ (Or.inr rfl)
theorem End48 (rb : Nat) (s : RS) (Z : Nat → Prop) (w : World) (hr : Rd w rb s Z) : Ret Try.prog 48 #[.pointer (some ⟨rb, 0, none⟩)] w fun v w' => v = .int .i64 (rEnd s) ∧ Grow w w' := by
  refine Ret.enter (fn := Try.f48) (N := 17) Try.func48 rfl Try.ntmps48 rfl ?_
  repeat (first | refine WL.nil ?_ | refine WL.auto (h := ?_) | refine WL.gskip rfl rfl rfl rfl ?_ | refine WL.gauto (h := ?_) | (refine CW.seq ?_; intro K hK) | refine CW.block ?_ | refine CW.region ?_ | refine CW.skip ?_ | refine CW.exit ?_ | refine CW.ret ?_ | (refine thn_ret (K := K) ?_; clear hK K) | refine thn_ret ?_ | refine blk_ret ?_ | (refine thn_exit (K := K) ?_; clear hK K) | refine thn_exit ?_ | refine blk_here ?_ | refine blk_past rfl ?_ | refine thn_norm ?_ | refine blk_norm ?_ | refine CW.condT rfl ?_ | refine CW.condF rfl ?_ | (refine hK _ _ ?_; clear hK K))
  refine WL.step rfl ?_
  refine OpW.call ((Err54 rb s Z w hr).mono ?_) rfl
  rintro v w1 ⟨rfl, hg⟩
  obtain ⟨A, cap, hb, hs, hA, hcap, hL⟩ := hr.grow hg
  by_cases h0 : s.2 = 0
  · by_cases hn : s.1 = []
    · have e1 : rEnd s = 0 := by simp [rEnd, h0, hn]
      have hln : (s.1.length : Int) = 0 := by simp [hn]
      repeat (first | refine WL.nil ?_ | refine WL.auto (h := ?_) | refine WL.gskip rfl rfl rfl rfl ?_ | refine WL.gauto (h := ?_) | (refine CW.seq ?_; intro K hK) | refine CW.block ?_ | refine CW.region ?_ | refine CW.skip ?_ | refine CW.exit ?_ | refine CW.ret ?_ | (refine thn_ret (K := K) ?_; clear hK K) | refine thn_ret ?_ | refine blk_ret ?_ | (refine thn_exit (K := K) ?_; clear hK K) | refine thn_exit ?_ | refine blk_here ?_ | refine blk_past rfl ?_ | refine thn_norm ?_ | refine blk_norm ?_ | refine CW.condT rfl ?_ | refine CW.condF rfl ?_ | (refine hK _ _ ?_; clear hK K))
      rw [show decide (¬ s.2 = 0) = false from by simp [h0]]
      repeat (first | refine WL.nil ?_ | refine WL.auto (h := ?_) | refine WL.gskip rfl rfl rfl rfl ?_ | refine WL.gauto (h := ?_) | (refine CW.seq ?_; intro K hK) | refine CW.block ?_ | refine CW.region ?_ | refine CW.skip ?_ | refine CW.exit ?_ | refine CW.ret ?_ | (refine thn_ret (K := K) ?_; clear hK K) | refine thn_ret ?_ | refine blk_ret ?_ | (refine thn_exit (K := K) ?_; clear hK K) | refine thn_exit ?_ | refine blk_here ?_ | refine blk_past rfl ?_ | refine thn_norm ?_ | refine blk_norm ?_ | refine CW.condT rfl ?_ | refine CW.condF rfl ?_ | (refine hK _ _ ?_; clear hK K))
      rw [show decide ((s.1.length : Int) = 0) = true from decide_eq_true hln]
      repeat (first | refine WL.nil ?_ | refine WL.auto (h := ?_) | refine WL.gskip rfl rfl rfl rfl ?_ | refine WL.gauto (h := ?_) | (refine CW.seq ?_; intro K hK) | refine CW.block ?_ | refine CW.region ?_ | refine CW.skip ?_ | refine CW.exit ?_ | refine CW.ret ?_ | (refine thn_ret (K := K) ?_; clear hK K) | refine thn_ret ?_ | refine blk_ret ?_ | (refine thn_exit (K := K) ?_; clear hK K) | refine thn_exit ?_ | refine blk_here ?_ | refine blk_past rfl ?_ | refine thn_norm ?_ | refine blk_norm ?_ | refine CW.condT rfl ?_ | refine CW.condF rfl ?_ | (refine hK _ _ ?_; clear hK K))
      exact out1 (v := .int .i64 s.2) Try.results48 rfl ⟨by rw [e1, h0], hg⟩ (Or.inr rfl)
    · have e1 : rEnd s = 23 := by simp [rEnd, h0, hn]
      have hln : ¬ (s.1.length : Int) = 0 := by have := List.length_pos_iff.2 hn; omega
      repeat (first | refine WL.nil ?_ | refine WL.auto (h := ?_) | refine WL.gskip rfl rfl rfl rfl ?_ | refine WL.gauto (h := ?_) | (refine CW.seq ?_; intro K hK) | refine CW.block ?_ | refine CW.region ?_ | refine CW.skip ?_ | refine CW.exit ?_ | refine CW.ret ?_ | (refine thn_ret (K := K) ?_; clear hK K) | refine thn_ret ?_ | refine blk_ret ?_ | (refine thn_exit (K := K) ?_; clear hK K) | refine thn_exit ?_ | refine blk_here ?_ | refine blk_past rfl ?_ | refine thn_norm ?_ | refine blk_norm ?_ | refine CW.condT rfl ?_ | refine CW.condF rfl ?_ | (refine hK _ _ ?_; clear hK K))
      rw [show decide (¬ s.2 = 0) = false from by simp [h0]]
      repeat (first | refine WL.nil ?_ | refine WL.auto (h := ?_) | refine WL.gskip rfl rfl rfl rfl ?_ | refine WL.gauto (h := ?_) | (refine CW.seq ?_; intro K hK) | refine CW.block ?_ | refine CW.region ?_ | refine CW.skip ?_ | refine CW.exit ?_ | refine CW.ret ?_ | (refine thn_ret (K := K) ?_; clear hK K) | refine thn_ret ?_ | refine blk_ret ?_ | (refine thn_exit (K := K) ?_; clear hK K) | refine thn_exit ?_ | refine blk_here ?_ | refine blk_past rfl ?_ | refine thn_norm ?_ | refine blk_norm ?_ | refine CW.condT rfl ?_ | refine CW.condF rfl ?_ | (refine hK _ _ ?_; clear hK K))
      rw [show decide ((s.1.length : Int) = 0) = false from decide_eq_false hln]
      repeat (first | refine WL.nil ?_ | refine WL.auto (h := ?_) | refine WL.gskip rfl rfl rfl rfl ?_ | refine WL.gauto (h := ?_) | (refine CW.seq ?_; intro K hK) | refine CW.block ?_ | refine CW.region ?_ | refine CW.skip ?_ | refine CW.exit ?_ | refine CW.ret ?_ | (refine thn_ret (K := K) ?_; clear hK K) | refine thn_ret ?_ | refine blk_ret ?_ | (refine thn_exit (K := K) ?_; clear hK K) | refine thn_exit ?_ | refine blk_here ?_ | refine blk_past rfl ?_ | refine thn_norm ?_ | refine blk_norm ?_ | refine CW.condT rfl ?_ | refine CW.condF rfl ?_ | (refine hK _ _ ?_; clear hK K))
      exact out1 (v := .int .i64 23) Try.results48 rfl ⟨by rw [e1], hg⟩ (Or.inr rfl)
  · have e1 : rEnd s = s.2 := by simp [rEnd, h0]
    repeat (first | refine WL.nil ?_ | refine WL.auto (h := ?_) | refine WL.gskip rfl rfl rfl rfl ?_ | refine WL.gauto (h := ?_) | (refine CW.seq ?_; intro K hK) | refine CW.block ?_ | refine CW.region ?_ | refine CW.skip ?_ | refine CW.exit ?_ | refine CW.ret ?_ | (refine thn_ret (K := K) ?_; clear hK K) | refine thn_ret ?_ | refine blk_ret ?_ | (refine thn_exit (K := K) ?_; clear hK K) | refine thn_exit ?_ | refine blk_here ?_ | refine blk_past rfl ?_ | refine thn_norm ?_ | refine blk_norm ?_ | refine CW.condT rfl ?_ | refine CW.condF rfl ?_ | (refine hK _ _ ?_; clear hK K))
    rw [show decide (¬ s.2 = 0) = true from by simp [h0]]
    repeat (first | refine WL.nil ?_ | refine WL.auto (h := ?_) | refine WL.gskip rfl rfl rfl rfl ?_ | refine WL.gauto (h := ?_) | (refine CW.seq ?_; intro K hK) | refine CW.block ?_ | refine CW.region ?_ | refine CW.skip ?_ | refine CW.exit ?_ | refine CW.ret ?_ | (refine thn_ret (K := K) ?_; clear hK K) | refine thn_ret ?_ | refine blk_ret ?_ | (refine thn_exit (K := K) ?_; clear hK K) | refine thn_exit ?_ | refine blk_here ?_ | refine blk_past rfl ?_ | refine thn_norm ?_ | refine blk_norm ?_ | refine CW.condT rfl ?_ | refine CW.condF rfl ?_ | (refine hK _ _ ?_; clear hK K))
    exact out1 (v := .int .i64 s.2) Try.results48 rfl ⟨by rw [e1], hg⟩ (Or.inr rfl)

theorem B45 (rb : Nat) (s : RS) (Z : Nat → Prop) (w : World) (hr : Rd w rb s Z) : Ret Try.prog 45 #[.pointer (some ⟨rb, 0, none⟩)] w fun v w' => (∃ A cap, v = .slice A (rB s).1.length cap ∧ Own w' A 5 1 (rB s).1.length cap (bvs (rB s).1) (fresh w)) ∧ Rd w' rb (rB s).2 Z ∧ Chg (· = rb) w w' := by
  refine Ret.enter (fn := Try.f45) (N := 49) Try.func45 rfl Try.ntmps45 rfl ?_
  obtain ⟨x, ok, s', hq⟩ : ∃ x ok s', rNum s 0 4 = (x, ok, s') := ⟨_, _, _, rfl⟩
  repeat (first | refine WL.nil ?_ | refine WL.auto (h := ?_) | refine WL.gskip rfl rfl rfl rfl ?_ | refine WL.gauto (h := ?_) | (refine CW.seq ?_; intro K hK) | refine CW.block ?_ | refine CW.region ?_ | refine CW.skip ?_ | refine CW.exit ?_ | refine CW.ret ?_ | (refine thn_ret (K := K) ?_; clear hK K) | refine thn_ret ?_ | refine blk_ret ?_ | (refine thn_exit (K := K) ?_; clear hK K) | refine thn_exit ?_ | refine blk_here ?_ | refine blk_past rfl ?_ | refine thn_norm ?_ | refine blk_norm ?_ | refine CW.condT rfl ?_ | refine CW.condF rfl ?_ | (refine hK _ _ ?_; clear hK K))
  refine WL.step rfl ?_
  refine OpW.call ((number76 rb s 0 4 Z w hr (by decide) (by decide)).mono ?_) rfl
  rintro v w1 ⟨rfl, hr1, hc1⟩
  rw [hq] at hr1 ⊢
  cases ok with
  | false =>
    have hx := rNum_false hq
    subst hx
    have e1 : rB s = ([], s') := by simp [rB, hq]
    repeat (first | refine WL.nil ?_ | refine WL.auto (h := ?_) | refine WL.gskip rfl rfl rfl rfl ?_ | refine WL.gauto (h := ?_) | (refine CW.seq ?_; intro K hK) | refine CW.block ?_ | refine CW.region ?_ | refine CW.skip ?_ | refine CW.exit ?_ | refine CW.ret ?_ | (refine thn_ret (K := K) ?_; clear hK K) | refine thn_ret ?_ | refine blk_ret ?_ | (refine thn_exit (K := K) ?_; clear hK K) | refine thn_exit ?_ | refine blk_here ?_ | refine blk_past rfl ?_ | refine thn_norm ?_ | refine blk_norm ?_ | refine CW.condT rfl ?_ | refine CW.condF rfl ?_ | (refine hK _ _ ?_; clear hK K))
    refine out1 (v := .slice none 0 0) Try.results45 rfl ?_ (Or.inr rfl)
    rw [e1]
    exact ⟨⟨none, 0, rfl, Own.nil _ _ _ _⟩, hr1, hc1⟩
  | true =>
    obtain ⟨rfl, hb0, hlen, hx⟩ := rNum_true hq
    obtain ⟨L, bad⟩ := s'
    have hr1' := hr1
    obtain ⟨A, cap, hb, hs, hA, hcap, hL⟩ := hr1
    simp only at hb hs hcap hL hlen hb0
    subst hb0
    repeat (first | refine WL.nil ?_ | refine WL.auto (h := ?_) | refine WL.gskip rfl rfl rfl rfl ?_ | refine WL.gauto (h := ?_) | (refine CW.seq ?_; intro K hK) | refine CW.block ?_ | refine CW.region ?_ | refine CW.skip ?_ | refine CW.exit ?_ | refine CW.ret ?_ | (refine thn_ret (K := K) ?_; clear hK K) | refine thn_ret ?_ | refine blk_ret ?_ | (refine thn_exit (K := K) ?_; clear hK K) | refine thn_exit ?_ | refine blk_here ?_ | refine blk_past rfl ?_ | refine thn_norm ?_ | refine blk_norm ?_ | refine CW.condT rfl ?_ | refine CW.condF rfl ?_ | (refine hK _ _ ?_; clear hK K))
    refine CW.condP (p := (65535 : Int) < (x : Int)) rfl (fun h1 => ?_) (fun h1 => ?_)
    · have e1 : rB (L, 0) = ([], (L, 22)) := by simp only [rB, hq, if_true]; rw [if_pos (by omega)]
      repeat (first | refine WL.nil ?_ | refine WL.auto (h := ?_) | refine WL.gskip rfl rfl rfl rfl ?_ | refine WL.gauto (h := ?_) | (refine CW.seq ?_; intro K hK) | refine CW.block ?_ | refine CW.region ?_ | refine CW.skip ?_ | refine CW.exit ?_ | refine CW.ret ?_ | (refine thn_ret (K := K) ?_; clear hK K) | refine thn_ret ?_ | refine blk_ret ?_ | (refine thn_exit (K := K) ?_; clear hK K) | refine thn_exit ?_ | refine blk_here ?_ | refine blk_past rfl ?_ | refine thn_norm ?_ | refine blk_norm ?_ | refine CW.condT rfl ?_ | refine CW.condF rfl ?_ | (refine hK _ _ ?_; clear hK K))
      refine WL.step0 ?_
      refine OpW.store (v := .int _ _) rfl rfl rfl hb rfl (c' := #[_, _]) rfl ?_
      intro w2 hp hb2
      repeat (first | refine WL.nil ?_ | refine WL.auto (h := ?_) | refine WL.gskip rfl rfl rfl rfl ?_ | refine WL.gauto (h := ?_) | (refine CW.seq ?_; intro K hK) | refine CW.block ?_ | refine CW.region ?_ | refine CW.skip ?_ | refine CW.exit ?_ | refine CW.ret ?_ | (refine thn_ret (K := K) ?_; clear hK K) | refine thn_ret ?_ | refine blk_ret ?_ | (refine thn_exit (K := K) ?_; clear hK K) | refine thn_exit ?_ | refine blk_here ?_ | refine blk_past rfl ?_ | refine thn_norm ?_ | refine blk_norm ?_ | refine CW.condT rfl ?_ | refine CW.condF rfl ?_ | (refine hK _ _ ?_; clear hK K))
      refine out1 (v := .slice none 0 0) Try.results45 rfl ?_ (Or.inr rfl)
      rw [e1]
      exact ⟨⟨none, 0, rfl, Own.nil _ _ _ _⟩, ⟨A, cap, hb2, hs.keep hp.chg fun a ha => (hA a ha).2.2, hA, hcap, hL⟩, hc1.andThen hp.chg⟩
    · have hx2 : x ≤ 65535 := by omega
      obtain ⟨y, ok2, s2, hq2⟩ : ∃ y ok s', rNum (L, 0) (4 + x) 0 = (y, ok, s') := ⟨_, _, _, rfl⟩
      repeat (first | refine WL.nil ?_ | refine WL.auto (h := ?_) | refine WL.gskip rfl rfl rfl rfl ?_ | refine WL.gauto (h := ?_) | (refine CW.seq ?_; intro K hK) | refine CW.block ?_ | refine CW.region ?_ | refine CW.skip ?_ | refine CW.exit ?_ | refine CW.ret ?_ | (refine thn_ret (K := K) ?_; clear hK K) | refine thn_ret ?_ | refine blk_ret ?_ | (refine thn_exit (K := K) ?_; clear hK K) | refine thn_exit ?_ | refine blk_here ?_ | refine blk_past rfl ?_ | refine thn_norm ?_ | refine blk_norm ?_ | refine CW.condT rfl ?_ | refine CW.condF rfl ?_ | (refine hK _ _ ?_; clear hK K))
      refine WL.step rfl ?_
      refine OpW.call ((number76 rb (L, 0) (4 + x) 0 Z w1 hr1' (by decide) (by omega)).mono ?_) rfl
      rintro v w2 ⟨rfl, hr2, hc2⟩
      rw [hq2] at hr2 ⊢
      cases ok2 with
      | false =>
        have hy := rNum_false hq2
        subst hy
        have e1 : rB (L, 0) = ([], s2) := by simp only [rB, hq, if_true]; rw [if_neg (by omega)]; simp [hq2]
        repeat (first | refine WL.nil ?_ | refine WL.auto (h := ?_) | refine WL.gskip rfl rfl rfl rfl ?_ | refine WL.gauto (h := ?_) | (refine CW.seq ?_; intro K hK) | refine CW.block ?_ | refine CW.region ?_ | refine CW.skip ?_ | refine CW.exit ?_ | refine CW.ret ?_ | (refine thn_ret (K := K) ?_; clear hK K) | refine thn_ret ?_ | refine blk_ret ?_ | (refine thn_exit (K := K) ?_; clear hK K) | refine thn_exit ?_ | refine blk_here ?_ | refine blk_past rfl ?_ | refine thn_norm ?_ | refine blk_norm ?_ | refine CW.condT rfl ?_ | refine CW.condF rfl ?_ | (refine hK _ _ ?_; clear hK K))
        refine out1 (v := .slice none 0 0) Try.results45 rfl ?_ (Or.inr rfl)
        rw [e1]
        exact ⟨⟨none, 0, rfl, Own.nil _ _ _ _⟩, hr2, hc1.andThen hc2⟩
      | true =>
        obtain ⟨rfl, _, hlen2, _⟩ := rNum_true hq2
        simp only at hlen2
        have e1 : rB (L, 0) = ((L.drop 4).take x, (L.drop (4 + x), 0)) := by simp only [rB, hq, if_true]; rw [if_neg (by omega)]; simp [hq2]
        clear hb hs hA hcap hL
        obtain ⟨A, cap, hb, hs, hA, hcap, hL⟩ := hr2
        simp only at hb hs hcap hL
        have hlx : ((L.drop 4).take x).length = x := by simp; omega
        repeat (first | refine WL.nil ?_ | refine WL.auto (h := ?_) | refine WL.gskip rfl rfl rfl rfl ?_ | refine WL.gauto (h := ?_) | (refine CW.seq ?_; intro K hK) | refine CW.block ?_ | refine CW.region ?_ | refine CW.skip ?_ | refine CW.exit ?_ | refine CW.ret ?_ | (refine thn_ret (K := K) ?_; clear hK K) | refine thn_ret ?_ | refine blk_ret ?_ | (refine thn_exit (K := K) ?_; clear hK K) | refine thn_exit ?_ | refine blk_here ?_ | refine blk_past rfl ?_ | refine thn_norm ?_ | refine blk_norm ?_ | refine CW.condT rfl ?_ | refine CW.condF rfl ?_ | (refine hK _ _ ?_; clear hK K))
        refine WL.step rfl ?_
        refine OpW.sliceLoHi 4 (4 + x) rfl rfl rfl rfl (by omega) (by omega) (by omega) (fun a ha => (hA a ha).1) ?_
        intro B1 hB1
        rw [show 4 + x - 4 = ((L.drop 4).take x).length by omega]
        have hsB : Sl w2 B1 (bvs ((L.drop 4).take x)) := by
          have h := (hs.drop' 4 (fun a ha => (hA a ha).1) B1 (by rcases hB1 with ⟨h1, h2⟩ | h1; exact Or.inl ⟨h1, by rw [bvs_length]; omega⟩; exact Or.inr (by simpa using h1))).take x
          rwa [bvs_drop, bvs_take] at h
        refine WL.step rfl ?_
        refine OpW.call ((clone73 _ _ _ _ hsB (by omega)).mono ?_) rfl
        rintro v w3 ⟨A', cap', rfl, ho, hg⟩
        have hb3 := hb.grow hg
        repeat (first | refine WL.nil ?_ | refine WL.auto (h := ?_) | refine WL.gskip rfl rfl rfl rfl ?_ | refine WL.gauto (h := ?_) | (refine CW.seq ?_; intro K hK) | refine CW.block ?_ | refine CW.region ?_ | refine CW.skip ?_ | refine CW.exit ?_ | refine CW.ret ?_ | (refine thn_ret (K := K) ?_; clear hK K) | refine thn_ret ?_ | refine blk_ret ?_ | (refine thn_exit (K := K) ?_; clear hK K) | refine thn_exit ?_ | refine blk_here ?_ | refine blk_past rfl ?_ | refine thn_norm ?_ | refine blk_norm ?_ | refine CW.condT rfl ?_ | refine CW.condF rfl ?_ | (refine hK _ _ ?_; clear hK K))
        refine WL.step rfl ?_
        refine OpW.sliceLo (4 + x) rfl rfl rfl (by omega) (fun a ha => (hA a ha).1) ?_
        intro B hB
        repeat (first | refine WL.nil ?_ | refine WL.auto (h := ?_) | refine WL.gskip rfl rfl rfl rfl ?_ | refine WL.gauto (h := ?_) | (refine CW.seq ?_; intro K hK) | refine CW.block ?_ | refine CW.region ?_ | refine CW.skip ?_ | refine CW.exit ?_ | refine CW.ret ?_ | (refine thn_ret (K := K) ?_; clear hK K) | refine thn_ret ?_ | refine blk_ret ?_ | (refine thn_exit (K := K) ?_; clear hK K) | refine thn_exit ?_ | refine blk_here ?_ | refine blk_past rfl ?_ | refine thn_norm ?_ | refine blk_norm ?_ | refine CW.condT rfl ?_ | refine CW.condF rfl ?_ | (refine hK _ _ ?_; clear hK K))
        refine WL.step0 ?_
        refine OpW.store (v := .slice _ _ _) rfl rfl rfl hb3 rfl (c' := #[_, _]) rfl ?_
        intro w4 hp hb4
        repeat (first | refine WL.nil ?_ | refine WL.auto (h := ?_) | refine WL.gskip rfl rfl rfl rfl ?_ | refine WL.gauto (h := ?_) | (refine CW.seq ?_; intro K hK) | refine CW.block ?_ | refine CW.region ?_ | refine CW.skip ?_ | refine CW.exit ?_ | refine CW.ret ?_ | (refine thn_ret (K := K) ?_; clear hK K) | refine thn_ret ?_ | refine blk_ret ?_ | (refine thn_exit (K := K) ?_; clear hK K) | refine thn_exit ?_ | refine blk_here ?_ | refine blk_past rfl ?_ | refine thn_norm ?_ | refine blk_norm ?_ | refine CW.condT rfl ?_ | refine CW.condF rfl ?_ | (refine hK _ _ ?_; clear hK K))
        refine out1 (v := .slice A' _ cap') Try.results45 rfl ?_ (Or.inr rfl)
        rw [e1]
        refine ⟨⟨A', cap', rfl, ?_⟩, Rd.cut (hs.grow hg) hA hcap hL (by omega) hB hp hb4, (hc1.andThen hc2).andThen ((Chg.to hg).andThen hp.chg)⟩
        refine (ho.keep' hp.chg fun a ha => ?_).mono fun g hgf => Nat.le_trans (Nat.le_trans hc1.size hc2.size) hgf
        have h1 := (ho.in_ ha).1
        have h2 := hb.lt
        unfold fresh at h1
        omega

theorem T46 (rb : Nat) (s : RS) (Z : Nat → Prop) (w : World) (hr : Rd w rb s Z) : Ret Try.prog 46 #[.pointer (some ⟨rb, 0, none⟩)] w fun v w' => v = .string (bstr (rB s).1) ∧ Rd w' rb (rB s).2 Z ∧ Chg (· = rb) w w' := by
  refine Ret.enter (fn := Try.f46) (N := 6) Try.func46 rfl Try.ntmps46 rfl ?_
  repeat (first | refine WL.nil ?_ | refine WL.auto (h := ?_) | refine WL.gskip rfl rfl rfl rfl ?_ | refine WL.gauto (h := ?_) | (refine CW.seq ?_; intro K hK) | refine CW.block ?_ | refine CW.region ?_ | refine CW.skip ?_ | refine CW.exit ?_ | refine CW.ret ?_ | (refine thn_ret (K := K) ?_; clear hK K) | refine thn_ret ?_ | refine blk_ret ?_ | (refine thn_exit (K := K) ?_; clear hK K) | refine thn_exit ?_ | refine blk_here ?_ | refine blk_past rfl ?_ | refine thn_norm ?_ | refine blk_norm ?_ | refine CW.condT rfl ?_ | refine CW.condF rfl ?_ | (refine hK _ _ ?_; clear hK K))
  refine WL.step rfl ?_
  refine OpW.call ((B45 rb s Z w hr).mono ?_) rfl
  rintro v w1 ⟨⟨A, cap, rfl, ho⟩, hr1, hc1⟩
  refine WL.step rfl ?_
  refine OpW.toStr rfl ho.sl rfl ?_
  repeat (first | refine WL.nil ?_ | refine WL.auto (h := ?_) | refine WL.gskip rfl rfl rfl rfl ?_ | refine WL.gauto (h := ?_) | (refine CW.seq ?_; intro K hK) | refine CW.block ?_ | refine CW.region ?_ | refine CW.skip ?_ | refine CW.exit ?_ | refine CW.ret ?_ | (refine thn_ret (K := K) ?_; clear hK K) | refine thn_ret ?_ | refine blk_ret ?_ | (refine thn_exit (K := K) ?_; clear hK K) | refine thn_exit ?_ | refine blk_here ?_ | refine blk_past rfl ?_ | refine thn_norm ?_ | refine blk_norm ?_ | refine CW.condT rfl ?_ | refine CW.condF rfl ?_ | (refine hK _ _ ?_; clear hK K))
  exact out1 (v := .string _) Try.results46 rfl ⟨rfl, hr1, hc1⟩ (Or.inr rfl)
end B
end Go.Proofs.Ytlofcomnhecgfaa
/- What the arguments are that a row's reading takes: bytes, numbers, structs, slices of these. No conditions. -/
namespace Go.Proofs.Ytlofcomnhecgfaa
namespace B
set_option linter.unusedVariables false
set_option linter.unusedSimpArgs false

section
variable {H : Type} {enc : TypeId × Value → H} {P : Program} {w : World} {base : Nat} {spare : Nat → Bool} {held : Bool} {fuel t : Nat} {cs : List Value} {x : DataW H × List MemPlace}

theorem cells_get {a : Addr} {n : Nat} {vs : List Value} (h : w.cells? base a n = some vs) : vs.length = n ∧ ∀ i v, vs[i]? = some v → w.cell? (a.add i) = some v := by
  unfold World.cells? at h
  split at h
  · have h1 := mapM_some_length h
    refine ⟨by simpa using h1, fun i v hi => ?_⟩
    obtain ⟨hl, _⟩ := List.getElem?_eq_some_iff.1 hi
    have h2 := mapM_some_get h i i (by rw [List.getElem?_range]; rw [h1] at hl; simpa using hl)
    rw [h2, hi]
  · cases h

theorem inv_int {k : IntKind} (ht : P.underlying t = some (.int k)) (h : DataW.trod enc P w base spare held fuel t cs = some x) : ∃ n, cs = [.int k n] ∧ (Lit.int k n).wf = true ∧ x.1 = .lit (.int k n) := by
  cases fuel with
  | zero => simp [DataW.trod] at h
  | succ fuel =>
    unfold DataW.trod at h
    rw [ht] at h
    split at h <;> simp_all
    rw [← h.2]
theorem inv_bool (ht : P.underlying t = some .bool) (h : DataW.trod enc P w base spare held fuel t cs = some x) : ∃ b, cs = [.bool b] ∧ x.1 = .lit (.bool b) := by
  cases fuel with
  | zero => simp [DataW.trod] at h
  | succ fuel =>
    unfold DataW.trod at h
    rw [ht] at h
    split at h <;> simp_all
    obtain rfl := h
    rfl
theorem inv_string (ht : P.underlying t = some .string) (h : DataW.trod enc P w base spare held fuel t cs = some x) : ∃ l, cs = [.string (bstr l)] ∧ x.1 = .lit (.string l) := by
  cases fuel with
  | zero => simp [DataW.trod] at h
  | succ fuel =>
    unfold DataW.trod at h
    rw [ht] at h
    split at h <;> simp_all
    rename_i s
    obtain ⟨_, rfl⟩ := h
    exact ⟨s.data.toList, by rw [bstr_eta], rfl⟩
theorem inv_slice {E : TypeId} (ht : P.underlying t = some (.slice E)) (h : DataW.trod enc P w base spare held fuel t cs = some x) :
    (cs = [.slice none 0 0] ∧ x.1 = .nil) ∨ ∃ (a : Addr) (len cap : Nat) (elems : List (DataW H × List MemPlace)) (rest : List (DataW H)) (fuel' : Nat), cs = [.slice (some a) len cap] ∧ len ≤ cap ∧ cap ≤ maxLen ∧ elems.length = len ∧ x.1 = .slice (elems.map (·.1)) rest ∧
      ∀ i el, elems[i]? = some el → ∃ vs, w.cells? base (a.add (i * P.cellsOf E)) (P.cellsOf E) = some vs ∧ DataW.trod enc P w base spare held fuel' E vs = some el := by
  cases fuel with
  | zero => simp [DataW.trod] at h
  | succ fuel =>
    unfold DataW.trod at h
    rw [ht] at h
    split at h <;> simp_all
    case h_7 => rw [← h]
    case h_8 =>
      obtain ⟨⟨h1, h2, h3⟩, h4⟩ := h
      rw [Option.bind_eq_some_iff] at h4
      obtain ⟨elems, h5, h6⟩ := h4
      rw [Option.map_eq_some_iff] at h6
      obtain ⟨rest, h7, rfl⟩ := h6
      have hlen := mapM_some_length h5
      refine ⟨_, _, _, ⟨rfl, rfl, rfl⟩, h2, h3, elems, by simpa using hlen, ⟨_, rfl⟩, fuel, fun i a b hi => ?_⟩
      obtain ⟨hl, _⟩ := List.getElem?_eq_some_iff.1 hi
      have h8 := mapM_some_get h5 i i (by rw [List.getElem?_range]; rw [hlen] at hl; simpa using hl)
      rw [hi] at h8
      exact Option.bind_eq_some_iff.1 h8

theorem inv_struct {fs : Array Field} (ht : P.underlying t = some (.struct fs)) (h : DataW.trod enc P w base spare held fuel t cs = some x) :
    cs.length = P.cellsOf t ∧ ∃ (xs : List (DataW H × List MemPlace)) (fuel' : Nat), x.1 = .agg (xs.map (·.1)) ∧ xs.length = fs.size ∧
      ∀ (i : Nat) (f : Field), fs.toList[i]? = some f → ∃ y, xs[i]? = some y ∧ DataW.trod enc P w base spare held fuel' f.type ((cs.drop f.offset).take (P.cellsOf f.type)) = some y := by
  cases fuel with
  | zero => simp [DataW.trod] at h
  | succ fuel =>
    unfold DataW.trod at h
    rw [ht] at h
    split at h <;> simp_all
    obtain ⟨_, xs, h5, rfl⟩ := h
    have hlen := mapM_some_length h5
    refine ⟨xs, rfl, by simpa using hlen, fuel, fun i f hi => ?_⟩
    have h8 := mapM_some_get h5 i f (by simpa using hi)
    obtain ⟨hl, _⟩ := Array.getElem?_eq_some_iff.1 hi
    have hl2 : i < xs.length := by rw [hlen]; simpa using hl
    rw [List.getElem?_eq_getElem hl2] at h8
    exact ⟨_, _, List.getElem?_eq_getElem hl2, h8⟩
theorem inv_array {n : Nat} {E : TypeId} (ht : P.underlying t = some (.array n E)) (h : DataW.trod enc P w base spare held fuel t cs = some x) :
    cs.length = P.cellsOf t ∧ ∃ (xs : List (DataW H × List MemPlace)) (fuel' : Nat), x.1 = .agg (xs.map (·.1)) ∧ xs.length = n ∧
      ∀ i, i < n → ∃ y, xs[i]? = some y ∧ DataW.trod enc P w base spare held fuel' E ((cs.drop (i * P.cellsOf E)).take (P.cellsOf E)) = some y := by
  cases fuel with
  | zero => simp [DataW.trod] at h
  | succ fuel =>
    unfold DataW.trod at h
    rw [ht] at h
    split at h <;> simp_all
    obtain ⟨_, xs, h5, rfl⟩ := h
    have hlen := mapM_some_length h5
    refine ⟨xs, rfl, by simpa using hlen, fuel, fun i hi => ?_⟩
    have h8 := mapM_some_get h5 i i (by rw [List.getElem?_range]; simpa using hi)
    have hl2 : i < xs.length := by rw [hlen]; simpa using hi
    rw [List.getElem?_eq_getElem hl2] at h8
    exact ⟨_, _, List.getElem?_eq_getElem hl2, h8⟩
end

/-! ### Bulk -/
theorem bulk_one {H : Type} (d : DataW H) : 1 ≤ Rows.uptoBulk d := by
  cases d with
  | lit l => cases l <;> simp [Rows.uptoBulk]
  | nil => simp [Rows.uptoBulk]
  | ptr d => simp [Rows.uptoBulk]
  | slice elems spare => simp [Rows.uptoBulk]
  | agg parts => simp [Rows.uptoBulk]
  | iface t d => simp [Rows.uptoBulk]
  | map entries => simp [Rows.uptoBulk]
  | held h => simp [Rows.uptoBulk]
theorem bulk_len {H : Type} (l : List (DataW H)) : l.length ≤ Rows.uptoBulkAll l := by
  induction l with
  | nil => simp [Rows.uptoBulkAll]
  | cons x r ih => have := bulk_one x; simp only [Rows.uptoBulkAll, List.length_cons]; omega
theorem bulk_part {H : Type} {d : DataW H} {l : List (DataW H)} (h : d ∈ l) : Rows.uptoBulk d ≤ Rows.uptoBulkAll l := by
  induction l with
  | nil => cases h
  | cons x r ih =>
    simp only [Rows.uptoBulkAll]
    cases List.mem_cons.1 h with
    | inl e => subst e; omega
    | inr e => have := ih e; omega
theorem bulk_bound {H : Type} {l : List (DataW H)} (hk : Rows.uptoSmall H l = true) : Rows.uptoBulkAll l ≤ 1048576 := by
  unfold Rows.uptoSmall at hk
  exact of_decide_eq_true hk

/-! ### Bytes, bools -/
/-- A slice of bytes that came in. -/
def InBytes (w : World) (v : Value) (l : List UInt8) : Prop := ∃ A cap, v = .slice A l.length cap ∧ l.length ≤ cap ∧ cap ≤ maxLen ∧ Sl w A (bvs l)
theorem InBytes.grow {w w' : World} {v : Value} {l : List UInt8} (h : InBytes w v l) (hg : Grow w w') : InBytes w' v l := by
  obtain ⟨A, cap, h1, h2, h3, h4⟩ := h
  exact ⟨A, cap, h1, h2, h3, h4.grow hg⟩
def InBools (w : World) (v : Value) (l : List Bool) : Prop := ∃ A cap, v = .slice A l.length cap ∧ l.length ≤ cap ∧ cap ≤ maxLen ∧ Sl w A (l.map .bool)
theorem InBools.grow {w w' : World} {v : Value} {l : List Bool} (h : InBools w v l) (hg : Grow w w') : InBools w' v l := by
  obtain ⟨A, cap, h1, h2, h3, h4⟩ := h
  exact ⟨A, cap, h1, h2, h3, h4.grow hg⟩

theorem sl_of {w : World} {a : Addr} {vs : List Value} (h : ∀ i v, vs[i]? = some v → w.cell? (a.add i) = some v) : Sl w (some a) vs := by
  intro i v hi
  obtain ⟨b, o, s⟩ := a
  have h0 : s = none := by
    obtain ⟨hl, _⟩ := List.getElem?_eq_some_iff.1 hi
    have := h 0 vs[0] (by simp)
    unfold Addr.add at this
    rw [if_pos rfl] at this
    unfold World.cell? at this
    cases s with
    | none => rfl
    | some s =>
      split at this
      · simp at this
      · cases this
  subst h0
  exact ⟨_, rfl, rfl, by have := h i v hi; rwa [add_at] at this⟩

section
variable {H : Type} {enc : TypeId × Value → H} {P : Program} {w : World} {base : Nat} {spare : Nat → Bool} {held : Bool} {fuel t : Nat} {cs : List Value} {x : DataW H × List MemPlace}
theorem wf_u8 {n : Int} (h : (Lit.int .u8 n).wf = true) : ∃ u : UInt8, n = (u.toNat : Int) := by
  have h1 : 0 ≤ n ∧ n ≤ 255 := by simpa [Lit.wf, IntKind.min, IntKind.max, IntKind.signed, IntKind.bits] using h
  refine ⟨UInt8.ofNat n.toNat, ?_⟩
  have := ofNat_toNat n.toNat
  omega
theorem wf_u64 {n : Int} (h : (Lit.int .u64 n).wf = true) : ∃ m : Nat, n = (m : Int) ∧ m < 18446744073709551616 := by
  have h1 : 0 ≤ n ∧ n ≤ 18446744073709551615 := by simpa [Lit.wf, IntKind.min, IntKind.max, IntKind.signed, IntKind.bits] using h
  exact ⟨n.toNat, by omega, by omega⟩
theorem wf_i64 {n : Int} (h : (Lit.int .i64 n).wf = true) : -9223372036854775808 ≤ n ∧ n ≤ 9223372036854775807 := by
  simpa [Lit.wf, IntKind.min, IntKind.max, IntKind.signed, IntKind.bits] using h

/-- Elements of one cell each, each of them g of something. -/
theorem list_of {α : Type} (g : α → Value) : ∀ (n : Nat) (f : Nat → Option Value), (∀ i, i < n → ∃ a, f i = some (g a)) → ∃ l : List α, l.length = n ∧ ∀ i v, (l.map g)[i]? = some v → f i = some v
  | 0, f, _ => ⟨[], rfl, fun i v h => by simp at h⟩
  | n + 1, f, h => by
    obtain ⟨l, h1, h2⟩ := list_of g n f (fun i hi => h i (by omega))
    obtain ⟨a, ha⟩ := h n (by omega)
    refine ⟨l ++ [a], by simp [h1], fun i v hi => ?_⟩
    rw [List.map_append, List.getElem?_append] at hi
    split at hi
    · exact h2 i v hi
    · rename_i hlt
      rw [List.length_map, h1] at hlt hi
      have : i = n := by
        cases hq : i - n with
        | zero => omega
        | succ m => rw [hq] at hi; simp at hi
      subst this
      rw [Nat.sub_self] at hi
      simp at hi
      rw [ha, hi]

theorem open_bytes {E : TypeId} (ht : P.underlying t = some (.slice E)) (he : P.underlying E = some (.int .u8)) (hc : P.cellsOf E = 1) {v : Value} (h : DataW.trod enc P w base spare held fuel t [v] = some x) : ∃ l, InBytes w v l ∧ l.length + 1 ≤ Rows.uptoBulk x.1 := by
  rcases inv_slice ht h with ⟨h1, h2⟩ | ⟨a, len, cap, elems, rest, fuel', h1, h2, h3, h4, h5, h6⟩
  · simp only [List.cons.injEq, and_true] at h1
    exact ⟨[], ⟨none, 0, h1, Nat.le_refl _, Nat.zero_le _, Sl.nil _ _⟩, by rw [h2]; simp [Rows.uptoBulk]⟩
  · simp only [List.cons.injEq, and_true] at h1
    obtain ⟨l, g1, g2⟩ := list_of bv len (fun i => w.cell? (a.add i)) (fun i hi => by
      obtain ⟨vs, k1, k2⟩ := h6 i elems[i] (by simp [h4, hi])
      rw [hc] at k1
      obtain ⟨k3, k4⟩ := cells_get k1
      obtain ⟨n, k5, k6, _⟩ := inv_int he k2
      obtain ⟨u, rfl⟩ := wf_u8 k6
      have := k4 0 _ (by rw [k5]; rfl)
      refine ⟨u, ?_⟩
      rw [Nat.mul_one] at this
      simpa [Addr.add, bv] using this)
    refine ⟨l, ⟨some a, cap, by rw [h1, g1], by omega, h3, sl_of g2⟩, ?_⟩
    have := bulk_len (elems.map (·.1))
    rw [h5, g1, ← h4]
    simp only [Rows.uptoBulk, List.length_map] at this ⊢
    omega
theorem open_bools {E : TypeId} (ht : P.underlying t = some (.slice E)) (he : P.underlying E = some .bool) (hc : P.cellsOf E = 1) {v : Value} (h : DataW.trod enc P w base spare held fuel t [v] = some x) : ∃ l, InBools w v l ∧ l.length + 1 ≤ Rows.uptoBulk x.1 := by
  rcases inv_slice ht h with ⟨h1, h2⟩ | ⟨a, len, cap, elems, rest, fuel', h1, h2, h3, h4, h5, h6⟩
  · simp only [List.cons.injEq, and_true] at h1
    exact ⟨[], ⟨none, 0, h1, Nat.le_refl _, Nat.zero_le _, Sl.nil _ _⟩, by rw [h2]; simp [Rows.uptoBulk]⟩
  · simp only [List.cons.injEq, and_true] at h1
    obtain ⟨l, g1, g2⟩ := list_of Value.bool len (fun i => w.cell? (a.add i)) (fun i hi => by
      obtain ⟨vs, k1, k2⟩ := h6 i elems[i] (by simp [h4, hi])
      rw [hc] at k1
      obtain ⟨k3, k4⟩ := cells_get k1
      obtain ⟨b, k5, _⟩ := inv_bool he k2
      have := k4 0 _ (by rw [k5]; rfl)
      refine ⟨b, ?_⟩
      rw [Nat.mul_one] at this
      simpa [Addr.add] using this)
    refine ⟨l, ⟨some a, cap, by rw [h1, g1], by omega, h3, sl_of g2⟩, ?_⟩
    have := bulk_len (elems.map (·.1))
    rw [h5, g1, ← h4]
    simp only [Rows.uptoBulk, List.length_map] at this ⊢
    omega
end
end B
end Go.Proofs.Ytlofcomnhecgfaa
/- isthmuslaw02.Op as an argument. No conditions. -/
namespace Go.Proofs.Ytlofcomnhecgfaa
namespace B
set_option linter.unusedVariables false

theorem cellsOf3 : Try.prog.cellsOf 3 = 1 := by kernel_rfl
theorem cellsOf4 : Try.prog.cellsOf 4 = 1 := by kernel_rfl
theorem cellsOf5 : Try.prog.cellsOf 5 = 1 := by kernel_rfl
theorem cellsOf9 : Try.prog.cellsOf 9 = 1 := by kernel_rfl
theorem cellsOf22 : Try.prog.cellsOf 22 = 1 := by kernel_rfl
theorem cellsOf23 : Try.prog.cellsOf 23 = 1 := by kernel_rfl
theorem cellsOf25 : Try.prog.cellsOf 25 = 5 := by kernel_rfl
theorem cellsOf49 : Try.prog.cellsOf 49 = 1 := by kernel_rfl

theorem len5 {α : Type} {l : List α} (h : l.length = 5) : ∃ a b c d e, l = [a, b, c, d, e] := by
  match l, h with
  | [a, b, c, d, e], _ => exact ⟨a, b, c, d, e, rfl⟩
theorem len4 {α : Type} {l : List α} (h : l.length = 4) : ∃ a b c d, l = [a, b, c, d] := by
  match l, h with
  | [a, b, c, d], _ => exact ⟨a, b, c, d, rfl⟩
theorem len2 {α : Type} {l : List α} (h : l.length = 2) : ∃ a b, l = [a, b] := by
  match l, h with
  | [a, b], _ => exact ⟨a, b, rfl⟩
section
variable {H : Type} {enc : TypeId × Value → H} {w : World} {base : Nat} {spare : Nat → Bool} {held : Bool} {fuel : Nat} {cs : List Value} {x : DataW H × List MemPlace}
/-- One Op of layer 2: kind, most, number, bytes, flag. -/
structure Op2 where
  kind : Int
  most : Int
  n : Nat
  b : List UInt8
  y : Bool
def IsOp2 (w : World) (o : Op2) (cs : List Value) : Prop :=
  ∃ A cap, cs = [.int .i64 o.kind, .int .i64 o.most, .int .u64 (o.n : Int), .slice A o.b.length cap, .bool o.y] ∧ Sl w A (bvs o.b) ∧ o.b.length ≤ cap ∧ cap ≤ maxLen ∧ (-9223372036854775808 ≤ o.most ∧ o.most ≤ 9223372036854775807) ∧ o.n < 18446744073709551616
theorem IsOp2.grow {w w' : World} {o : Op2} {cs : List Value} (h : IsOp2 w o cs) (hg : Grow w w') : IsOp2 w' o cs := by
  obtain ⟨A, cap, h1, h2, h3⟩ := h
  exact ⟨A, cap, h1, h2.grow hg, h3⟩

theorem open_op2 (h : DataW.trod enc Try.prog w base spare held fuel 25 cs = some x) : ∃ o, IsOp2 w o cs ∧ o.b.length + 1 ≤ Rows.uptoBulk x.1 := by
  obtain ⟨hl, xs, f', h1, h2, h3⟩ := inv_struct Try.underlying25 h
  rw [cellsOf25] at hl
  obtain ⟨c0, c1, c2, c3, c4, rfl⟩ := len5 hl
  obtain ⟨y0, g0, t0⟩ := h3 0 _ rfl
  obtain ⟨y1, g1, t1⟩ := h3 1 _ rfl
  obtain ⟨y2, g2, t2⟩ := h3 2 _ rfl
  obtain ⟨y3, g3, t3⟩ := h3 3 _ rfl
  obtain ⟨y4, g4, t4⟩ := h3 4 _ rfl
  simp only [cellsOf3, cellsOf23, cellsOf22, cellsOf4, List.drop_zero, List.drop_succ_cons, List.take_succ_cons, List.take_zero] at t0 t1 t2 t3 t4
  obtain ⟨kind, e0, _, _⟩ := inv_int Try.underlying3 t0
  obtain ⟨most, e1, w1, _⟩ := inv_int Try.underlying3 t1
  obtain ⟨n, e2, w2, _⟩ := inv_int Try.underlying23 t2
  obtain ⟨l, ⟨A, cap, e3, k1, k2, k3⟩, hb⟩ := open_bytes Try.underlying22 Try.underlying5 cellsOf5 t3
  obtain ⟨y, e4, _⟩ := inv_bool Try.underlying4 t4
  obtain ⟨m, rfl, hm⟩ := wf_u64 w2
  simp only [List.cons.injEq, and_true] at e0 e1 e2 e4
  subst e0 e1 e2 e3 e4
  refine ⟨⟨kind, most, m, l, y⟩, ⟨A, cap, rfl, k3, k1, k2, wf_i64 w1, hm⟩, ?_⟩
  rw [h1]
  simp only [Rows.uptoBulk]
  have hmem : y3.1 ∈ xs.map (·.1) := List.mem_map.2 ⟨y3, List.mem_of_getElem? g3, rfl⟩
  have := bulk_part hmem
  have hb' : l.length + 1 ≤ Rows.uptoBulk y3.1 := hb
  show l.length + 1 ≤ _
  omega
end
end B
end Go.Proofs.Ytlofcomnhecgfaa
/- Slices of structs that came in; aggregates stored whole. No conditions. -/
namespace Go.Proofs.Ytlofcomnhecgfaa
namespace B
set_option linter.unusedVariables false
set_option linter.unusedSimpArgs false

/-- A slice of elements of k cells each: R tells what the cells of one are. -/
def InStructs {α : Type} (w : World) (v : Value) (k : Nat) (R : α → List Value → Prop) (xs : List α) : Prop :=
  ∃ A cap cs, v = .slice A xs.length cap ∧ xs.length ≤ cap ∧ cap ≤ maxLen ∧ cs.length = xs.length * k ∧ Sl w A cs ∧ ∀ i x, xs[i]? = some x → R x ((cs.drop (i * k)).take k)

theorem choose_list {α : Type} (f : Nat → α → Prop) : ∀ n, (∀ i, i < n → ∃ o, f i o) → ∃ l : List α, l.length = n ∧ ∀ i p, l[i]? = some p → f i p := by
  intro n
  induction n with
  | zero => intro _; exact ⟨[], rfl, fun i p h => by simp at h⟩
  | succ n ih =>
    intro h
    obtain ⟨l, h1, h2⟩ := ih fun i hi => h i (by omega)
    obtain ⟨o, ho⟩ := h n (by omega)
    refine ⟨l ++ [o], by simp [h1], fun i p hp => ?_⟩
    rw [List.getElem?_append] at hp
    split at hp
    · exact h2 i p hp
    · rename_i hi
      have hin : i = n := by
        obtain ⟨hl, _⟩ := List.getElem?_eq_some_iff.1 hp
        simp at hl; omega
      subst hin
      rw [h1, Nat.sub_self] at hp
      simp at hp
      rw [← hp]; exact ho

theorem flat_part {k : Nat} : ∀ (css : List (List Value)), (∀ c ∈ css, c.length = k) → (css.flatten.length = css.length * k) ∧ (∀ i c, css[i]? = some c → (css.flatten.drop (i * k)).take k = c) ∧ (∀ q v, css.flatten[q]? = some v → ∃ i c j, css[i]? = some c ∧ c[j]? = some v ∧ q = i * k + j) := by
  intro css
  induction css with
  | nil => intro _; exact ⟨by simp, fun i c h => by simp at h, fun q v h => by simp at h⟩
  | cons c css ih =>
    intro h
    obtain ⟨h1, h2, h3⟩ := ih fun c hc => h c (List.mem_cons_of_mem _ hc)
    have hc : c.length = k := h c (List.mem_cons_self ..)
    refine ⟨by simp [h1, hc, Nat.succ_mul, Nat.add_comm], fun i d hd => ?_, fun q v hq => ?_⟩
    · cases i with
      | zero =>
        simp at hd; subst hd
        rw [List.flatten_cons, Nat.zero_mul, List.drop_zero, ← hc, List.take_left' rfl]
      | succ i =>
        rw [List.flatten_cons, Nat.succ_mul, Nat.add_comm (i * k) k, ← List.drop_drop]
        rw [show (c ++ css.flatten).drop k = css.flatten from by rw [← hc]; simp]
        exact h2 i d (by simpa using hd)
    · rw [List.flatten_cons, List.getElem?_append] at hq
      split at hq
      · exact ⟨0, c, q, rfl, hq, by omega⟩
      · obtain ⟨i, d, j, g1, g2, g3⟩ := h3 _ _ hq
        exact ⟨i + 1, d, j, by simpa using g1, g2, by rw [Nat.succ_mul]; omega⟩

theorem sum_part {α H : Type} (bulk : α → Nat) : ∀ (xs : List α) (ds : List (DataW H)), xs.length = ds.length → (∀ (i : Nat) (x : α) (d : DataW H), xs[i]? = some x → ds[i]? = some d → bulk x ≤ Rows.uptoBulk d) → (xs.map bulk).sum ≤ Rows.uptoBulkAll ds := by
  intro xs
  induction xs with
  | nil => intro ds h _; simp
  | cons x xs ih =>
    intro ds h hb
    cases ds with
    | nil => simp at h
    | cons d ds =>
      have h1 := hb 0 x d rfl rfl
      have h2 := ih ds (by simpa using h) fun i y e hy he => hb (i + 1) y e (by simpa using hy) (by simpa using he)
      simp only [List.map_cons, List.sum_cons, Rows.uptoBulkAll]
      omega

section
variable {H : Type} {enc : TypeId × Value → H} {P : Program} {w : World} {base : Nat} {spare : Nat → Bool} {held : Bool} {fuel : Nat} {cs : List Value} {x : DataW H × List MemPlace} {t : TypeId}
theorem open_structs {α : Type} {E : TypeId} {k : Nat} (R : α → List Value → Prop) (bulk : α → Nat) (ht : P.underlying t = some (.slice E)) (hc : P.cellsOf E = k) (hk : 0 < k)
    (ho : ∀ fuel cs (x : DataW H × List MemPlace), DataW.trod enc P w base spare held fuel E cs = some x → ∃ o, R o cs ∧ bulk o ≤ Rows.uptoBulk x.1)
    {v : Value} (h : DataW.trod enc P w base spare held fuel t [v] = some x) : ∃ xs, InStructs w v k R xs ∧ (xs.map bulk).sum + 1 ≤ Rows.uptoBulk x.1 ∧ xs.length + 1 ≤ Rows.uptoBulk x.1 := by
  rcases inv_slice ht h with ⟨h1, h2⟩ | ⟨a, len, cap, elems, rest, fuel', h1, h2, h3, h4, h5, h6⟩
  · simp only [List.cons.injEq, and_true] at h1
    exact ⟨[], ⟨none, 0, [], h1, Nat.le_refl _, Nat.zero_le _, by simp, Sl.nil _ _, fun i x h => by simp at h⟩, by rw [h2]; simp [Rows.uptoBulk], by rw [h2]; simp [Rows.uptoBulk]⟩
  · simp only [List.cons.injEq, and_true] at h1
    rw [hc] at h6
    obtain ⟨l, g1, g2⟩ := choose_list (fun i (p : α × List Value) => p.2.length = k ∧ (∀ j v, p.2[j]? = some v → w.cell? (a.add (i * k + j)) = some v) ∧ R p.1 p.2 ∧ ∀ el, elems[i]? = some el → bulk p.1 ≤ Rows.uptoBulk el.1) len (fun i hi => by
      obtain ⟨vs, k1, k2⟩ := h6 i elems[i] (by simp [h4, hi])
      obtain ⟨k3, k4⟩ := cells_get k1
      obtain ⟨o, k5, k6⟩ := ho _ _ _ k2
      refine ⟨(o, vs), k3, fun j v hj => ?_, k5, fun el hel => ?_⟩
      · have := k4 j v hj
        rw [← this]
        congr 1
        unfold Addr.add
        by_cases e1 : i * k = 0 <;> by_cases e2 : j = 0 <;> simp [e1, e2, Nat.add_assoc]
      · have : elems[i]? = some elems[i] := by simp [h4, hi]
        rw [this] at hel
        cases hel
        exact k6)
    have hlen : ∀ c ∈ l.map (·.2), c.length = k := by
      intro c hc
      obtain ⟨p, hp, rfl⟩ := List.mem_map.1 hc
      obtain ⟨i, hi⟩ := List.getElem?_of_mem hp
      exact (g2 i p hi).1
    obtain ⟨f1, f2, f3⟩ := flat_part _ hlen
    refine ⟨l.map (·.1), ⟨some a, cap, (l.map (·.2)).flatten, by rw [h1]; simp [g1], by simp [g1]; omega, h3, by rw [f1]; simp, sl_of fun q v hq => ?_, fun i o hi => ?_⟩, ?_, ?_⟩
    · obtain ⟨i, c, j, e1, e2, e3⟩ := f3 q v hq
      rw [List.getElem?_map] at e1
      cases hp : l[i]? with
      | none => rw [hp] at e1; cases e1
      | some p =>
        rw [hp] at e1
        cases e1
        rw [e3]
        exact (g2 i p hp).2.1 j v e2
    · rw [List.getElem?_map] at hi
      cases hp : l[i]? with
      | none => rw [hp] at hi; cases hi
      | some p =>
        rw [hp] at hi
        cases hi
        rw [f2 i p.2 (by rw [List.getElem?_map, hp]; rfl)]
        exact (g2 i p hp).2.2.1
    · have := sum_part bulk (l.map (·.1)) (elems.map (·.1)) (by simp [g1, h4]) (fun i o d ho hd => by
        rw [List.getElem?_map] at ho hd
        cases hp : l[i]? with
        | none => rw [hp] at ho; cases ho
        | some p =>
          rw [hp] at ho; cases ho
          cases he : elems[i]? with
          | none => rw [he] at hd; cases hd
          | some el => rw [he] at hd; cases hd; exact (g2 i p hp).2.2.2 el he)
      rw [h5]
      simp only [Rows.uptoBulk]
      omega
    · have := bulk_len (elems.map (·.1))
      rw [h5]
      simp only [Rows.uptoBulk, List.length_map, g1, ← h4] at this ⊢
      omega
end

section
variable {P : Program} {N : Nat} {Q : Post} {e : Env} {w w0 : World} {ty : TypeId} {K : Value → World → Prop}
theorem setRow_blk {b : Nat} {c c' : Array Value} {E : TypeId} (hb : Blk w b c E) : Blk (w.setRow b c') b c' E ∧ Put w (w.setRow b c') b := by
  unfold Blk at *
  refine ⟨by simp [World.setRow, Array.getElem?_modify, hb], ⟨rfl, rfl, rfl, by simp [World.setRow], fun k hk hn => ?_⟩, by simp [World.setRow]⟩
  have : ¬ b = k := fun h => hn h.symm
  simp [World.setRow, Array.getElem?_modify, this]
/-- An aggregate stored into a block. -/
theorem OpW.storeAgg {t : TypeId} {x y : Operand} {b o n : Nat} {c c' d : Array Value} {E : TypeId} [ht : SizeT P t n] (hx : ev e x = .pointer (some ⟨b, o, none⟩)) (hy : ev e y = .agg d) (hv : d.toList.all (·.oneCell') = true) (hb : Blk w b c E) (hd : d.size = n) (ho : o + n ≤ c.size) (hc : c' = (c.toList.take o ++ d.toList ++ c.toList.drop (o + d.toList.length)).toArray)
    (h : ∀ w', Put w w' b → Blk w' b c' E → K undef w') : OpW P (.store t x y) ty e w K := by
  subst hc
  obtain ⟨h1, h2⟩ := setRow_blk (c' := (c.toList.take o ++ d.toList ++ c.toList.drop (o + d.toList.length)).toArray) hb
  refine OpW.of_unit (s := Instr.storeAt t (ev e x) (ev e y)) rfl ?_ (h _ h2 h1)
  have hs := run_storeCells_at (P := P) b o E d.toList 0 c w hb (by rw [Array.length_toList]; omega) (fun v hv' => List.all_eq_true.1 hv v hv')
  rw [hx, hy]
  rw [Nat.add_zero] at hs
  simp only [Instr.storeAt, Instr.sureAddr, storeVar, Sem.run_bind, ht.h, Result.andThen, Value.cells, hd, hs]
  simp [Sem.run_bind, Result.andThen, hs, pure_bind, Sem.run_pure]
theorem OpW.storeAll {t : TypeId} {x y : Operand} {b n : Nat} {c d : Array Value} {E : TypeId} [ht : SizeT P t n] (hx : ev e x = .pointer (some ⟨b, 0, none⟩)) (hy : ev e y = .agg d) (hv : d.toList.all (·.oneCell') = true) (hb : Blk w b c E) (hd : d.size = n) (ho : c.size = n)
    (h : ∀ w', Put w w' b → Blk w' b d E → K undef w') : OpW P (.store t x y) ty e w K :=
  OpW.storeAgg hx hy hv hb hd (by omega) (by
    rw [List.take_zero, List.nil_append, List.drop_eq_nil_of_le (by simp; omega), List.append_nil, Array.toArray_toList]) h
end
end B
end Go.Proofs.Ytlofcomnhecgfaa
/- What arguments read as: bytes, one call. No conditions. -/
namespace Go.Proofs.Ytlofcomnhecgfaa
namespace B
set_option linter.unusedVariables false
set_option maxRecDepth 100000
theorem sum2 {H : Type} (a b : DataW H) : Rows.uptoBulkAll ([a, b] ++ []) = Rows.uptoBulk a + Rows.uptoBulk b := by simp [Rows.uptoBulkAll]
section
variable {H : Type} {enc : TypeId × Value → H} {sp : Nat → Bool} {hd : Bool} {W : World} {base b0 : Nat}
theorem arg_bytes {v : Value} {d : DataW H} {p : List MemPlace} (h : DataW.Trod enc Try.prog W b0 sp hd 22 v d p) (o : Value.okWide Try.prog W .any base 22 v) : ∃ l, InBytes W v l ∧ l.length + 1 ≤ Rows.uptoBulk d := by
  obtain ⟨fuel, hf⟩ := h
  obtain ⟨a, len, cap, rfl⟩ := WideShapes.okWide_slice Try.underlying22 o
  obtain ⟨l, h1, h2⟩ := open_bytes Try.underlying22 Try.underlying5 cellsOf5 hf
  exact ⟨l, h1, h2⟩
theorem arg_op2 {v : Value} {d : DataW H} {p : List MemPlace} (h : DataW.Trod enc Try.prog W b0 sp hd 25 v d p) (o : Value.okWide Try.prog W .any base 25 v) : ∃ o cs, v = .agg cs ∧ IsOp2 W o cs.toList ∧ o.b.length + 1 ≤ Rows.uptoBulk d := by
  obtain ⟨fuel, hf⟩ := h
  obtain ⟨cs, rfl, _⟩ := WideShapes.okWide_struct Try.underlying25 o
  obtain ⟨o, h1, h2⟩ := open_op2 hf
  exact ⟨o, cs, rfl, h1, h2⟩
end
end B
end Go.Proofs.Ytlofcomnhecgfaa
/- Plain: what is put is taken again. -/
namespace Go.Proofs.Ytlofcomnhecgfaa
namespace B
set_option linter.unusedVariables false

def encOp (o : Op2) : List UInt8 :=
  if o.kind = 1 then beN o.n else if o.kind = 2 ∨ o.kind = 3 then be4 (fld o.b).length ++ fld o.b else if o.kind = 4 then [if o.y then 1 else 0] else []

theorem u8_toNat (n : Nat) : (UInt8.ofNat n).toNat = n % 256 := by simp
theorem numOf_beN (n : Nat) (h : n < 18446744073709551616) : numOf (beN n) = n := by
  simp only [numOf, beN, List.foldl_cons, List.foldl_nil, u8_toNat]
  have e1 : n / 2 ^ 48 = n / 2 ^ 56 * 256 + n / 2 ^ 48 % 256 := by omega
  have e2 : n / 2 ^ 40 = n / 2 ^ 48 * 256 + n / 2 ^ 40 % 256 := by omega
  have e3 : n / 2 ^ 32 = n / 2 ^ 40 * 256 + n / 2 ^ 32 % 256 := by omega
  have e4 : n / 2 ^ 24 = n / 2 ^ 32 * 256 + n / 2 ^ 24 % 256 := by omega
  have e5 : n / 2 ^ 16 = n / 2 ^ 24 * 256 + n / 2 ^ 16 % 256 := by omega
  have e6 : n / 2 ^ 8 = n / 2 ^ 16 * 256 + n / 2 ^ 8 % 256 := by omega
  have e7 : n = n / 2 ^ 8 * 256 + n % 256 := by omega
  have e0 : n / 2 ^ 56 % 256 = n / 2 ^ 56 := by omega
  omega
theorem numOf_be4 (n : Nat) (h : n ≤ 65535) : numOf (be4 n) = n := by
  simp only [numOf, be4, List.foldl_cons, List.foldl_nil, u8_toNat]
  have : (0 : UInt8).toNat = 0 := rfl
  rw [this]
  omega
theorem rN_put (n : Nat) (h : n < 18446744073709551616) (rest : List UInt8) : rN (beN n ++ rest, 0) = (n, (rest, 0)) := by
  have h1 : rNum (beN n ++ rest, 0) 0 8 = (n, true, (beN n ++ rest, 0)) := by
    unfold rNum
    rw [if_neg (by simp), if_neg (by simp [beN_length])]
    rw [List.drop_zero, show (beN n ++ rest).take 8 = beN n from List.take_left' rfl, numOf_beN n h]
  unfold rN
  rw [h1]
  simp only [if_true]
  rw [show (beN n ++ rest).drop 8 = rest from List.drop_left' rfl]
theorem rB_put (f : List UInt8) (h : f.length ≤ 65535) (rest : List UInt8) : rB (be4 f.length ++ f ++ rest, 0) = (f, (rest, 0)) := by
  have h0 : (be4 f.length ++ f ++ rest).length = 4 + f.length + rest.length := by simp [be4_length]; omega
  have h1 : rNum (be4 f.length ++ f ++ rest, 0) 0 4 = (f.length, true, (be4 f.length ++ f ++ rest, 0)) := by
    unfold rNum
    rw [if_neg (by simp), if_neg (by rw [h0]; simp; omega)]
    rw [List.drop_zero, List.append_assoc, show (be4 f.length ++ (f ++ rest)).take 4 = be4 f.length from List.take_left' rfl, numOf_be4 _ h]
  have h2 : rNum (be4 f.length ++ f ++ rest, 0) (4 + f.length) 0 = (0, true, (be4 f.length ++ f ++ rest, 0)) := by
    unfold rNum
    rw [if_neg (by simp), if_neg (by rw [h0]; simp)]
    simp [numOf]
  unfold rB
  rw [h1]
  simp only [if_true]
  rw [if_neg (by omega), h2]
  simp only [if_true]
  have e1 : ((be4 f.length ++ f ++ rest).drop 4) = f ++ rest := by rw [List.append_assoc]; exact List.drop_left' rfl
  have e2 : ((be4 f.length ++ f ++ rest).drop (4 + f.length)) = rest := List.drop_left' (by simp [be4_length])
  rw [e2]
  simp [be4]
theorem rF_put (y : Bool) (rest : List UInt8) : rF ([if y then 1 else 0] ++ rest, 0) = (y, (rest, 0)) := by
  unfold rF rNum
  cases y <;> simp [numOf]
end B
end Go.Proofs.Ytlofcomnhecgfaa
/- The document's puts: they put the same bytes. No conditions but sizes. -/
namespace Go.Proofs.Ytlofcomnhecgfaa
namespace B
attribute [local irreducible] OpW WL CW Ret Sl Blk thn blk outOf
set_option linter.unusedVariables false
set_option linter.unusedSimpArgs false

theorem beN_step (n k : Nat) (h : k < 8) : (beN n).take (k + 1) = (beN n).take k ++ [UInt8.ofNat (n / 2 ^ (8 * (7 - k)))] := by
  match k, h with
  | 0, _ => rfl
  | 1, _ => rfl
  | 2, _ => rfl
  | 3, _ => rfl
  | 4, _ => rfl
  | 5, _ => rfl
  | 6, _ => rfl
  | 7, _ => simp [beN]
theorem bv_one {w w' : World} {b : Nat} {cur : Array Value} {u : UInt8} (h : New w w' b (.cells cur 5)) (hc : cur = #[bv u]) : Sl w' (some ⟨b, 0, none⟩) (bvs [u]) := by
  subst hc
  exact blk_sl_lit h

section
variable {P : Program} {N : Nat} {Q : Post} {e : Env} {w w0 : World} {ops : Array Oper} {rest : List Oper} {ty : TypeId}
/-- A list of one byte made, then put behind bytes of the own. -/
theorem WL.push {d dn t t1 t2 n cap : Nat} {z z1 : Value} {x y : Operand} {A : Option Addr} {l : List UInt8} {u : UInt8} {pos pos2 : String} {after after2 : Array Edge} [ht : ElemT P t 5 1 1 z] [hz : ZeroT P 5 z] [hu : ElemT P t1 5 1 1 z1] (hd : Nat.blt d N = true) (hdn : Nat.blt dn N = true) (htt : t2 = t1) (hne : ∀ v, ev (upd e d v) x = ev e x)
    (hy : ev e y = bv u) (hx : ev e x = .slice A n cap) (hn : n = l.length) (ho : Own w A 5 1 l.length cap (bvs l) (fresh w0)) (hg : Grow w0 w) (hroom : l.length < 140737488355328)
    (h : ∀ v A' cap' w', Own w' A' 5 1 (l ++ [u]).length cap' (bvs (l ++ [u])) (fresh w0) → Grow w0 w' → WL P N ops Q rest (upd (upd e d v) dn (.slice A' (l ++ [u]).length cap')) w') :
    WL P N ops Q (⟨some d, .buildSlice t 1 #[(0, y)], ty, pos, after, none⟩ :: ⟨some dn, .call ⟨.builtin .append, #[x, .tmp d], #[t1, t2]⟩, ty, pos2, after2, none⟩ :: rest) e w := by
  refine WL.step hd ?_
  refine OpW.buildLit [bv u] (by simp [hy]) rfl rfl (by intro v hv; simp only [List.mem_cons, List.not_mem_nil, or_false] at hv; subst hv; rfl) ?_
  intro b w1 hn1
  refine WL.step hdn ?_
  refine OpW.appB (w0 := w0) (l := l) (m := [u]) rfl ((hne _).trans hx) (by show upd _ _ _ _ = _; simp [upd]; rfl) hn rfl htt (ho.grow hn1.grow) (bv_one hn1 rfl) (hg.then hn1.grow) (by simp; omega) (fun A' c' w' h1 h2 _ => ?_)
  exact h _ A' c' w' h1 h2
end

theorem F29 (A : Option Addr) (cap : Nat) (l : List UInt8) (y : Bool) (w : World) (hs : Sl w A (bvs l)) (hl : l.length ≤ 1099511627776) : Ret Try.prog 29 #[.slice A l.length cap, .bool y] w fun v w' => NewBytes w w' v (putF l y) := by
  refine Ret.enter (fn := Try.f29) (N := 16) Try.func29 rfl Try.ntmps29 rfl ?_
  repeat (first | refine WL.nil ?_ | refine WL.auto (h := ?_) | refine WL.gskip rfl rfl rfl rfl ?_ | refine WL.gauto (h := ?_) | (refine CW.seq ?_; intro K hK) | refine CW.block ?_ | refine CW.region ?_ | refine CW.skip ?_ | refine CW.exit ?_ | refine CW.ret ?_ | (refine thn_ret (K := K) ?_; clear hK K) | refine thn_ret ?_ | refine blk_ret ?_ | (refine thn_exit (K := K) ?_; clear hK K) | refine thn_exit ?_ | refine blk_here ?_ | refine blk_past rfl ?_ | refine thn_norm ?_ | refine blk_norm ?_ | refine CW.condT rfl ?_ | refine CW.condF rfl ?_ | (refine hK _ _ ?_; clear hK K))
  first | refine WL.step rfl ?_ | refine WL.gstep rfl rfl rfl rfl ?_
  refine OpW.buildNone (fun b1 w1 n1 => ?_)
  repeat (first | refine WL.nil ?_ | refine WL.auto (h := ?_) | refine WL.gskip rfl rfl rfl rfl ?_ | refine WL.gauto (h := ?_) | (refine CW.seq ?_; intro K hK) | refine CW.block ?_ | refine CW.region ?_ | refine CW.skip ?_ | refine CW.exit ?_ | refine CW.ret ?_ | (refine thn_ret (K := K) ?_; clear hK K) | refine thn_ret ?_ | refine blk_ret ?_ | (refine thn_exit (K := K) ?_; clear hK K) | refine thn_exit ?_ | refine blk_here ?_ | refine blk_past rfl ?_ | refine thn_norm ?_ | refine blk_norm ?_ | refine CW.condT rfl ?_ | refine CW.condF rfl ?_ | (refine hK _ _ ?_; clear hK K))
  first | refine WL.step rfl ?_ | refine WL.gstep rfl rfl rfl rfl ?_
  refine OpW.appB (w0 := w) (l := []) (m := l) rfl rfl rfl rfl rfl rfl (Own.empty n1) (hs.grow n1.grow) n1.grow (by simp; omega) (fun A2 c2 w2 o2 g2 _ => ?_)
  rw [List.nil_append] at o2
  rw [List.nil_append]
  repeat (first | refine WL.nil ?_ | refine WL.auto (h := ?_) | refine WL.gskip rfl rfl rfl rfl ?_ | refine WL.gauto (h := ?_) | (refine CW.seq ?_; intro K hK) | refine CW.block ?_ | refine CW.region ?_ | refine CW.skip ?_ | refine CW.exit ?_ | refine CW.ret ?_ | (refine thn_ret (K := K) ?_; clear hK K) | refine thn_ret ?_ | refine blk_ret ?_ | (refine thn_exit (K := K) ?_; clear hK K) | refine thn_exit ?_ | refine blk_here ?_ | refine blk_past rfl ?_ | refine thn_norm ?_ | refine blk_norm ?_ | refine CW.condT rfl ?_ | refine CW.condF rfl ?_ | (refine hK _ _ ?_; clear hK K))
  refine CW.cond rfl (fun h1 => ?_) (fun h1 => ?_)
  all_goals
    subst h1
    repeat (first | refine WL.nil ?_ | refine WL.auto (h := ?_) | refine WL.gskip rfl rfl rfl rfl ?_ | refine WL.gauto (h := ?_) | (refine CW.seq ?_; intro K hK) | refine CW.block ?_ | refine CW.region ?_ | refine CW.skip ?_ | refine CW.exit ?_ | refine CW.ret ?_ | (refine thn_ret (K := K) ?_; clear hK K) | refine thn_ret ?_ | refine blk_ret ?_ | (refine thn_exit (K := K) ?_; clear hK K) | refine thn_exit ?_ | refine blk_here ?_ | refine blk_past rfl ?_ | refine thn_norm ?_ | refine blk_norm ?_ | refine CW.condT rfl ?_ | refine CW.condF rfl ?_ | (refine hK _ _ ?_; clear hK K))
    refine WL.push rfl rfl rfl (fun _ => rfl) (by first | exact (rfl : _ = bv 1) | exact (rfl : _ = bv 0)) rfl rfl o2 g2 (by omega) (fun v A3 c3 w3 o3 g3 => ?_)
    repeat (first | refine WL.nil ?_ | refine WL.auto (h := ?_) | refine WL.gskip rfl rfl rfl rfl ?_ | refine WL.gauto (h := ?_) | (refine CW.seq ?_; intro K hK) | refine CW.block ?_ | refine CW.region ?_ | refine CW.skip ?_ | refine CW.exit ?_ | refine CW.ret ?_ | (refine thn_ret (K := K) ?_; clear hK K) | refine thn_ret ?_ | refine blk_ret ?_ | (refine thn_exit (K := K) ?_; clear hK K) | refine thn_exit ?_ | refine blk_here ?_ | refine blk_past rfl ?_ | refine thn_norm ?_ | refine blk_norm ?_ | refine CW.condT rfl ?_ | refine CW.condF rfl ?_ | (refine hK _ _ ?_; clear hK K))
    exact out1 Try.results29 rfl ⟨A3, c3, rfl, o3, g3⟩ (Or.inr rfl)

theorem N27 (A : Option Addr) (cap : Nat) (l : List UInt8) (n : Nat) (w : World) (hs : Sl w A (bvs l)) (hl : l.length ≤ 1099511627776) : Ret Try.prog 27 #[.slice A l.length cap, .int .u64 (n : Int)] w fun v w' => NewBytes w w' v (putN l n) := by
  refine Ret.enter (fn := Try.f27) (N := 24) Try.func27 rfl Try.ntmps27 rfl ?_
  repeat (first | refine WL.nil ?_ | refine WL.auto (h := ?_) | refine WL.gskip rfl rfl rfl rfl ?_ | refine WL.gauto (h := ?_) | (refine CW.seq ?_; intro K hK) | refine CW.block ?_ | refine CW.region ?_ | refine CW.skip ?_ | refine CW.exit ?_ | refine CW.ret ?_ | (refine thn_ret (K := K) ?_; clear hK K) | refine thn_ret ?_ | refine blk_ret ?_ | (refine thn_exit (K := K) ?_; clear hK K) | refine thn_exit ?_ | refine blk_here ?_ | refine blk_past rfl ?_ | refine thn_norm ?_ | refine blk_norm ?_ | refine CW.condT rfl ?_ | refine CW.condF rfl ?_ | (refine hK _ _ ?_; clear hK K))
  first | refine WL.step rfl ?_ | refine WL.gstep rfl rfl rfl rfl ?_
  refine OpW.buildNone (fun b1 w1 n1 => ?_)
  repeat (first | refine WL.nil ?_ | refine WL.auto (h := ?_) | refine WL.gskip rfl rfl rfl rfl ?_ | refine WL.gauto (h := ?_) | (refine CW.seq ?_; intro K hK) | refine CW.block ?_ | refine CW.region ?_ | refine CW.skip ?_ | refine CW.exit ?_ | refine CW.ret ?_ | (refine thn_ret (K := K) ?_; clear hK K) | refine thn_ret ?_ | refine blk_ret ?_ | (refine thn_exit (K := K) ?_; clear hK K) | refine thn_exit ?_ | refine blk_here ?_ | refine blk_past rfl ?_ | refine thn_norm ?_ | refine blk_norm ?_ | refine CW.condT rfl ?_ | refine CW.condF rfl ?_ | (refine hK _ _ ?_; clear hK K))
  first | refine WL.step rfl ?_ | refine WL.gstep rfl rfl rfl rfl ?_
  refine OpW.appB (w0 := w) (l := []) (m := l) rfl rfl rfl rfl rfl rfl (Own.empty n1) (hs.grow n1.grow) n1.grow (by simp; omega) (fun A2 c2 w2 o2 g2 _ => ?_)
  rw [List.nil_append] at o2
  rw [List.nil_append]
  repeat (first | refine WL.nil ?_ | refine WL.auto (h := ?_) | refine WL.gskip rfl rfl rfl rfl ?_ | refine WL.gauto (h := ?_) | (refine CW.seq ?_; intro K hK) | refine CW.block ?_ | refine CW.region ?_ | refine CW.skip ?_ | refine CW.exit ?_ | refine CW.ret ?_ | (refine thn_ret (K := K) ?_; clear hK K) | refine thn_ret ?_ | refine blk_ret ?_ | (refine thn_exit (K := K) ?_; clear hK K) | refine thn_exit ?_ | refine blk_here ?_ | refine blk_past rfl ?_ | refine thn_norm ?_ | refine blk_norm ?_ | refine CW.condT rfl ?_ | refine CW.condF rfl ?_ | (refine hK _ _ ?_; clear hK K))
  refine CW.loop (fun n' e w3 => ∃ k A c, k ≤ 8 ∧ n' = 8 - k ∧ Own w3 A 5 1 (l ++ (beN n).take k).length c (bvs (l ++ (beN n).take k)) (fresh w) ∧ Grow w w3 ∧ ∃ e0, e = upd (upd (upd e0 1 (.int .u64 (n : Int))) 5 (.slice A (l ++ (beN n).take k).length c)) 6 (.int .i64 (7 - (k : Int)))) 8 ?_ ?_
  · exact ⟨0, A2, c2, by omega, rfl, by simpa using o2, g2, rep3 rfl (by rw [List.take_zero, List.append_nil]; rfl) rfl⟩
  rintro n' e w3 ⟨k, A3, c3, hk, rfl, o3, g3, e0, rfl⟩ KJ hJ
  repeat (first | refine WL.nil ?_ | refine WL.auto (h := ?_) | refine WL.gskip rfl rfl rfl rfl ?_ | refine WL.gauto (h := ?_) | (refine CW.seq ?_; intro K hK) | refine CW.block ?_ | refine CW.region ?_ | refine CW.skip ?_ | refine CW.exit ?_ | refine CW.ret ?_ | (refine thn_ret (K := K) ?_; clear hK K) | refine thn_ret ?_ | refine blk_ret ?_ | (refine thn_exit (K := K) ?_; clear hK K) | refine thn_exit ?_ | refine blk_here ?_ | refine blk_past rfl ?_ | refine thn_norm ?_ | refine blk_norm ?_ | refine CW.condT rfl ?_ | refine CW.condF rfl ?_ | (refine hK _ _ ?_; clear hK K))
  refine CW.condP rfl (fun h2 => ?_) (fun h2 => ?_)
  · repeat (first | refine WL.nil ?_ | refine WL.auto (h := ?_) | refine WL.gskip rfl rfl rfl rfl ?_ | refine WL.gauto (h := ?_) | (refine CW.seq ?_; intro K hK) | refine CW.block ?_ | refine CW.region ?_ | refine CW.skip ?_ | refine CW.exit ?_ | refine CW.ret ?_ | (refine thn_ret (K := K) ?_; clear hK K) | refine thn_ret ?_ | refine blk_ret ?_ | (refine thn_exit (K := K) ?_; clear hK K) | refine thn_exit ?_ | refine blk_here ?_ | refine blk_past rfl ?_ | refine thn_norm ?_ | refine blk_norm ?_ | refine CW.condT rfl ?_ | refine CW.condF rfl ?_ | (refine hK _ _ ?_; clear hK K))
    first | refine WL.step rfl ?_ | refine WL.gstep rfl rfl rfl rfl ?_
    refine OpW.shrN (8 * (7 - k)) rfl rfl (by omega) (by show _ ≤ 64; omega) ?_
    repeat (first | refine WL.nil ?_ | refine WL.auto (h := ?_) | refine WL.gskip rfl rfl rfl rfl ?_ | refine WL.gauto (h := ?_) | (refine CW.seq ?_; intro K hK) | refine CW.block ?_ | refine CW.region ?_ | refine CW.skip ?_ | refine CW.exit ?_ | refine CW.ret ?_ | (refine thn_ret (K := K) ?_; clear hK K) | refine thn_ret ?_ | refine blk_ret ?_ | (refine thn_exit (K := K) ?_; clear hK K) | refine thn_exit ?_ | refine blk_here ?_ | refine blk_past rfl ?_ | refine thn_norm ?_ | refine blk_norm ?_ | refine CW.condT rfl ?_ | refine CW.condF rfl ?_ | (refine hK _ _ ?_; clear hK K))
    have h8 : (l ++ (beN n).take k).length ≤ l.length + 8 := by simp [beN_length]; omega
    refine WL.push rfl rfl rfl (fun _ => rfl) rfl rfl rfl o3 g3 (by omega) (fun v A4 c4 w4 o4 g4 => ?_)
    have h9 : l ++ (beN n).take k ++ [UInt8.ofNat (n / 2 ^ (8 * (7 - k)))] = l ++ (beN n).take (k + 1) := by rw [beN_step n k (by omega), List.append_assoc]
    rw [h9] at o4
    rw [h9]
    repeat (first | refine WL.nil ?_ | refine WL.auto (h := ?_) | refine WL.gskip rfl rfl rfl rfl ?_ | refine WL.gauto (h := ?_) | (refine CW.seq ?_; intro K hK) | refine CW.block ?_ | refine CW.region ?_ | refine CW.skip ?_ | refine CW.exit ?_ | refine CW.ret ?_ | (refine thn_ret (K := K) ?_; clear hK K) | refine thn_ret ?_ | refine blk_ret ?_ | (refine thn_exit (K := K) ?_; clear hK K) | refine thn_exit ?_ | refine blk_here ?_ | refine blk_past rfl ?_ | refine thn_norm ?_ | refine blk_norm ?_ | refine CW.condT rfl ?_ | refine CW.condF rfl ?_ | (refine hK _ _ ?_; clear hK K))
    exact hJ (8 - (k + 1)) _ _ (by omega) ⟨k + 1, A4, c4, by omega, rfl, o4, g4, rep3 rfl rfl (congrArg (Value.int .i64) (by omega))⟩
  · obtain rfl : k = 8 := by omega
    repeat (first | refine WL.nil ?_ | refine WL.auto (h := ?_) | refine WL.gskip rfl rfl rfl rfl ?_ | refine WL.gauto (h := ?_) | (refine CW.seq ?_; intro K hK) | refine CW.block ?_ | refine CW.region ?_ | refine CW.skip ?_ | refine CW.exit ?_ | refine CW.ret ?_ | (refine thn_ret (K := K) ?_; clear hK K) | refine thn_ret ?_ | refine blk_ret ?_ | (refine thn_exit (K := K) ?_; clear hK K) | refine thn_exit ?_ | refine blk_here ?_ | refine blk_past rfl ?_ | refine thn_norm ?_ | refine blk_norm ?_ | refine CW.condT rfl ?_ | refine CW.condF rfl ?_ | (refine hK _ _ ?_; clear hK K))
    exact out1 Try.results27 rfl ⟨A3, c3, rfl, o3, g3⟩ (Or.inr rfl)

theorem B28 (A A2 : Option Addr) (cap cap2 : Nat) (l x : List UInt8) (w : World) (hs : Sl w A (bvs l)) (hx : Sl w A2 (bvs x)) (hl : l.length ≤ 1099511627776) (hc : x.length ≤ cap2) (hm : x.length ≤ 1099511627776) : Ret Try.prog 28 #[.slice A l.length cap, .slice A2 x.length cap2] w fun v w' => NewBytes w w' v (putB l x) := by
  refine Ret.enter (fn := Try.f28) (N := 36) Try.func28 rfl Try.ntmps28 rfl ?_
  have hfl := fld_length x
  repeat (first | refine WL.nil ?_ | refine WL.auto (h := ?_) | refine WL.gskip rfl rfl rfl rfl ?_ | refine WL.gauto (h := ?_) | (refine CW.seq ?_; intro K hK) | refine CW.block ?_ | refine CW.region ?_ | refine CW.skip ?_ | refine CW.exit ?_ | refine CW.ret ?_ | (refine thn_ret (K := K) ?_; clear hK K) | refine thn_ret ?_ | refine blk_ret ?_ | (refine thn_exit (K := K) ?_; clear hK K) | refine thn_exit ?_ | refine blk_here ?_ | refine blk_past rfl ?_ | refine thn_norm ?_ | refine blk_norm ?_ | refine CW.condT rfl ?_ | refine CW.condF rfl ?_ | (refine hK _ _ ?_; clear hK K))
  first | refine WL.step rfl ?_ | refine WL.gstep rfl rfl rfl rfl ?_
  refine OpW.buildNone (fun b1 w1 n1 => ?_)
  repeat (first | refine WL.nil ?_ | refine WL.auto (h := ?_) | refine WL.gskip rfl rfl rfl rfl ?_ | refine WL.gauto (h := ?_) | (refine CW.seq ?_; intro K hK) | refine CW.block ?_ | refine CW.region ?_ | refine CW.skip ?_ | refine CW.exit ?_ | refine CW.ret ?_ | (refine thn_ret (K := K) ?_; clear hK K) | refine thn_ret ?_ | refine blk_ret ?_ | (refine thn_exit (K := K) ?_; clear hK K) | refine thn_exit ?_ | refine blk_here ?_ | refine blk_past rfl ?_ | refine thn_norm ?_ | refine blk_norm ?_ | refine CW.condT rfl ?_ | refine CW.condF rfl ?_ | (refine hK _ _ ?_; clear hK K))
  first | refine WL.step rfl ?_ | refine WL.gstep rfl rfl rfl rfl ?_
  refine OpW.appB (w0 := w) (l := []) (m := l) rfl rfl rfl rfl rfl rfl (Own.empty n1) (hs.grow n1.grow) n1.grow (by simp; omega) (fun A3 c3 w3 o3 g3 _ => ?_)
  rw [List.nil_append] at o3
  rw [List.nil_append]
  repeat (first | refine WL.nil ?_ | refine WL.auto (h := ?_) | refine WL.gskip rfl rfl rfl rfl ?_ | refine WL.gauto (h := ?_) | (refine CW.seq ?_; intro K hK) | refine CW.block ?_ | refine CW.region ?_ | refine CW.skip ?_ | refine CW.exit ?_ | refine CW.ret ?_ | (refine thn_ret (K := K) ?_; clear hK K) | refine thn_ret ?_ | refine blk_ret ?_ | (refine thn_exit (K := K) ?_; clear hK K) | refine thn_exit ?_ | refine blk_here ?_ | refine blk_past rfl ?_ | refine thn_norm ?_ | refine blk_norm ?_ | refine CW.condT rfl ?_ | refine CW.condF rfl ?_ | (refine hK _ _ ?_; clear hK K))
  rw [show (if (65535 : Int) < (x.length : Int) then (65535 : Int) else (x.length : Int)) = (((fld x).length : Nat) : Int) from by rw [hfl]; split <;> omega]
  repeat (first | refine WL.nil ?_ | refine WL.auto (h := ?_) | refine WL.gskip rfl rfl rfl rfl ?_ | refine WL.gauto (h := ?_) | (refine CW.seq ?_; intro K hK) | refine CW.block ?_ | refine CW.region ?_ | refine CW.skip ?_ | refine CW.exit ?_ | refine CW.ret ?_ | (refine thn_ret (K := K) ?_; clear hK K) | refine thn_ret ?_ | refine blk_ret ?_ | (refine thn_exit (K := K) ?_; clear hK K) | refine thn_exit ?_ | refine blk_here ?_ | refine blk_past rfl ?_ | refine thn_norm ?_ | refine blk_norm ?_ | refine CW.condT rfl ?_ | refine CW.condF rfl ?_ | (refine hK _ _ ?_; clear hK K))
  refine WL.push rfl rfl rfl (fun _ => rfl) (rfl : _ = bv 0) rfl rfl o3 g3 (by omega) (fun v A4 c4 w4 o4 g4 => ?_)
  repeat (first | refine WL.nil ?_ | refine WL.auto (h := ?_) | refine WL.gskip rfl rfl rfl rfl ?_ | refine WL.gauto (h := ?_) | (refine CW.seq ?_; intro K hK) | refine CW.block ?_ | refine CW.region ?_ | refine CW.skip ?_ | refine CW.exit ?_ | refine CW.ret ?_ | (refine thn_ret (K := K) ?_; clear hK K) | refine thn_ret ?_ | refine blk_ret ?_ | (refine thn_exit (K := K) ?_; clear hK K) | refine thn_exit ?_ | refine blk_here ?_ | refine blk_past rfl ?_ | refine thn_norm ?_ | refine blk_norm ?_ | refine CW.condT rfl ?_ | refine CW.condF rfl ?_ | (refine hK _ _ ?_; clear hK K))
  refine WL.push rfl rfl rfl (fun _ => rfl) (rfl : _ = bv 0) rfl rfl o4 g4 (by simp; omega) (fun v A5 c5 w5 o5 g5 => ?_)
  repeat (first | refine WL.nil ?_ | refine WL.auto (h := ?_) | refine WL.gskip rfl rfl rfl rfl ?_ | refine WL.gauto (h := ?_) | (refine CW.seq ?_; intro K hK) | refine CW.block ?_ | refine CW.region ?_ | refine CW.skip ?_ | refine CW.exit ?_ | refine CW.ret ?_ | (refine thn_ret (K := K) ?_; clear hK K) | refine thn_ret ?_ | refine blk_ret ?_ | (refine thn_exit (K := K) ?_; clear hK K) | refine thn_exit ?_ | refine blk_here ?_ | refine blk_past rfl ?_ | refine thn_norm ?_ | refine blk_norm ?_ | refine CW.condT rfl ?_ | refine CW.condF rfl ?_ | (refine hK _ _ ?_; clear hK K))
  first | refine WL.step rfl ?_ | refine WL.gstep rfl rfl rfl rfl ?_
  refine OpW.quoN (m := 256) (k := .i64) (k' := .i64) rfl rfl rfl (by omega) (by omega) ?_
  repeat (first | refine WL.nil ?_ | refine WL.auto (h := ?_) | refine WL.gskip rfl rfl rfl rfl ?_ | refine WL.gauto (h := ?_) | (refine CW.seq ?_; intro K hK) | refine CW.block ?_ | refine CW.region ?_ | refine CW.skip ?_ | refine CW.exit ?_ | refine CW.ret ?_ | (refine thn_ret (K := K) ?_; clear hK K) | refine thn_ret ?_ | refine blk_ret ?_ | (refine thn_exit (K := K) ?_; clear hK K) | refine thn_exit ?_ | refine blk_here ?_ | refine blk_past rfl ?_ | refine thn_norm ?_ | refine blk_norm ?_ | refine CW.condT rfl ?_ | refine CW.condF rfl ?_ | (refine hK _ _ ?_; clear hK K))
  refine WL.push rfl rfl rfl (fun _ => rfl) rfl rfl rfl o5 g5 (by simp; omega) (fun v A6 c6 w6 o6 g6 => ?_)
  repeat (first | refine WL.nil ?_ | refine WL.auto (h := ?_) | refine WL.gskip rfl rfl rfl rfl ?_ | refine WL.gauto (h := ?_) | (refine CW.seq ?_; intro K hK) | refine CW.block ?_ | refine CW.region ?_ | refine CW.skip ?_ | refine CW.exit ?_ | refine CW.ret ?_ | (refine thn_ret (K := K) ?_; clear hK K) | refine thn_ret ?_ | refine blk_ret ?_ | (refine thn_exit (K := K) ?_; clear hK K) | refine thn_exit ?_ | refine blk_here ?_ | refine blk_past rfl ?_ | refine thn_norm ?_ | refine blk_norm ?_ | refine CW.condT rfl ?_ | refine CW.condF rfl ?_ | (refine hK _ _ ?_; clear hK K))
  first | refine WL.step rfl ?_ | refine WL.gstep rfl rfl rfl rfl ?_
  refine OpW.remN (m := 256) rfl rfl rfl (by omega) ?_
  repeat (first | refine WL.nil ?_ | refine WL.auto (h := ?_) | refine WL.gskip rfl rfl rfl rfl ?_ | refine WL.gauto (h := ?_) | (refine CW.seq ?_; intro K hK) | refine CW.block ?_ | refine CW.region ?_ | refine CW.skip ?_ | refine CW.exit ?_ | refine CW.ret ?_ | (refine thn_ret (K := K) ?_; clear hK K) | refine thn_ret ?_ | refine blk_ret ?_ | (refine thn_exit (K := K) ?_; clear hK K) | refine thn_exit ?_ | refine blk_here ?_ | refine blk_past rfl ?_ | refine thn_norm ?_ | refine blk_norm ?_ | refine CW.condT rfl ?_ | refine CW.condF rfl ?_ | (refine hK _ _ ?_; clear hK K))
  refine WL.push rfl rfl rfl (fun _ => rfl) rfl rfl rfl o6 g6 (by simp; omega) (fun v A7 c7 w7 o7 g7 => ?_)
  rw [ofNat_mod] at o7
  rw [ofNat_mod]
  repeat (first | refine WL.nil ?_ | refine WL.auto (h := ?_) | refine WL.gskip rfl rfl rfl rfl ?_ | refine WL.gauto (h := ?_) | (refine CW.seq ?_; intro K hK) | refine CW.block ?_ | refine CW.region ?_ | refine CW.skip ?_ | refine CW.exit ?_ | refine CW.ret ?_ | (refine thn_ret (K := K) ?_; clear hK K) | refine thn_ret ?_ | refine blk_ret ?_ | (refine thn_exit (K := K) ?_; clear hK K) | refine thn_exit ?_ | refine blk_here ?_ | refine blk_past rfl ?_ | refine thn_norm ?_ | refine blk_norm ?_ | refine CW.condT rfl ?_ | refine CW.condF rfl ?_ | (refine hK _ _ ?_; clear hK K))
  first | refine WL.step rfl ?_ | refine WL.gstep rfl rfl rfl rfl ?_
  refine OpW.sliceHi (fld x).length rfl rfl rfl (by omega) ?_
  repeat (first | refine WL.nil ?_ | refine WL.auto (h := ?_) | refine WL.gskip rfl rfl rfl rfl ?_ | refine WL.gauto (h := ?_) | (refine CW.seq ?_; intro K hK) | refine CW.block ?_ | refine CW.region ?_ | refine CW.skip ?_ | refine CW.exit ?_ | refine CW.ret ?_ | (refine thn_ret (K := K) ?_; clear hK K) | refine thn_ret ?_ | refine blk_ret ?_ | (refine thn_exit (K := K) ?_; clear hK K) | refine thn_exit ?_ | refine blk_here ?_ | refine blk_past rfl ?_ | refine thn_norm ?_ | refine blk_norm ?_ | refine CW.condT rfl ?_ | refine CW.condF rfl ?_ | (refine hK _ _ ?_; clear hK K))
  have hsl : Sl w7 A2 (bvs (fld x)) := by
    have := (hx.grow g7).take 65535
    rwa [bvs_take] at this
  first | refine WL.step rfl ?_ | refine WL.gstep rfl rfl rfl rfl ?_
  refine OpW.appB (w0 := w) (m := fld x) rfl rfl rfl rfl rfl rfl o7 hsl g7 (by simp; omega) (fun A8 c8 w8 o8 g8 _ => ?_)
  have he : l ++ [0] ++ [0] ++ [UInt8.ofNat ((fld x).length / 256)] ++ [UInt8.ofNat (fld x).length] ++ fld x = putB l x := by
    simp [putB, be4]
  rw [he] at o8
  rw [he]
  repeat (first | refine WL.nil ?_ | refine WL.auto (h := ?_) | refine WL.gskip rfl rfl rfl rfl ?_ | refine WL.gauto (h := ?_) | (refine CW.seq ?_; intro K hK) | refine CW.block ?_ | refine CW.region ?_ | refine CW.skip ?_ | refine CW.exit ?_ | refine CW.ret ?_ | (refine thn_ret (K := K) ?_; clear hK K) | refine thn_ret ?_ | refine blk_ret ?_ | (refine thn_exit (K := K) ?_; clear hK K) | refine thn_exit ?_ | refine blk_here ?_ | refine blk_past rfl ?_ | refine thn_norm ?_ | refine blk_norm ?_ | refine CW.condT rfl ?_ | refine CW.condF rfl ?_ | (refine hK _ _ ?_; clear hK K))
  exact out1 Try.results28 rfl ⟨A8, c8, rfl, o8, g8⟩ (Or.inr rfl)
end B
end Go.Proofs.Ytlofcomnhecgfaa
/- The document's reader: it answers as the plain one. Sizes are bounded. -/
namespace Go.Proofs.Ytlofcomnhecgfaa
namespace B
attribute [local irreducible] OpW WL CW Ret Sl Blk thn blk outOf
set_option linter.unusedVariables false
set_option linter.unusedSimpArgs false

/-- The document's reader at block rb, its address known. -/
def RfA (w : World) (rb : Nat) (A : Option Addr) (cap : Nat) (L : List UInt8) (bad : Int) (Z : Nat → Prop) : Prop :=
  Blk w rb #[.slice A L.length cap, .int .i64 bad] 119 ∧ Sl w A (bvs L) ∧ (∀ a, A = some a → a.spot = none ∧ Z a.block ∧ a.block ≠ rb) ∧ L.length ≤ cap ∧ L.length ≤ 70368744177664
def Rf (w : World) (rb : Nat) (s : RS) (Z : Nat → Prop) : Prop := ∃ A cap, RfA w rb A cap s.1 s.2 Z
theorem RfA.keep {S : Nat → Prop} {w w' : World} {rb : Nat} {A : Option Addr} {cap : Nat} {L : List UInt8} {bad : Int} {Z : Nat → Prop} (h : RfA w rb A cap L bad Z) (hc : Chg S w w') (h1 : ¬ S rb) (h2 : ∀ b, Z b → ¬ S b) : RfA w' rb A cap L bad Z := by
  obtain ⟨g1, g2, g3, g4, g5⟩ := h
  exact ⟨g1.keep hc h1, g2.keep hc fun a ha => h2 _ (g3 a ha).2.1, g3, g4, g5⟩
theorem Rf.keep {S : Nat → Prop} {w w' : World} {rb : Nat} {s : RS} {Z : Nat → Prop} (h : Rf w rb s Z) (hc : Chg S w w') (h1 : ¬ S rb) (h2 : ∀ b, Z b → ¬ S b) : Rf w' rb s Z := by
  obtain ⟨A, cap, g⟩ := h
  exact ⟨A, cap, g.keep hc h1 h2⟩
theorem Rf.grow {w w' : World} {rb : Nat} {s : RS} {Z : Nat → Prop} (h : Rf w rb s Z) (hc : Grow w w') : Rf w' rb s Z := h.keep hc (fun hf => hf) fun _ _ hf => hf
theorem Rf.mono {w : World} {rb : Nat} {s : RS} {Z Z' : Nat → Prop} (h : Rf w rb s Z) (hz : ∀ b, Z b → Z' b) : Rf w rb s Z' := by
  obtain ⟨A, cap, g1, g2, g3, g4, g5⟩ := h
  exact ⟨A, cap, g1, g2, fun a ha => ⟨(g3 a ha).1, hz _ (g3 a ha).2.1, (g3 a ha).2.2⟩, g4, g5⟩
/-- Its two cells written anew over the same bytes. -/
theorem RfA.turn {w w' : World} {rb : Nat} {A : Option Addr} {cap : Nat} {L : List UInt8} {bad' : Int} {Z : Nat → Prop} (hs : Sl w A (bvs L)) (hA : ∀ a, A = some a → a.spot = none ∧ Z a.block ∧ a.block ≠ rb) (hcap : L.length ≤ cap) (hL : L.length ≤ 70368744177664) (hp : Chg (· = rb) w w') (hb : Blk w' rb #[.slice A L.length cap, .int .i64 bad'] 119) : RfA w' rb A cap L bad' Z :=
  ⟨hb, hs.keep hp fun a ha => (hA a ha).2.2, hA, hcap, hL⟩
theorem RfA.cut {w w' : World} {rb m : Nat} {L : List UInt8} {bad : Int} {A B : Option Addr} {cap : Nat} {Z : Nat → Prop} (hs : Sl w A (bvs L)) (hA : ∀ a, A = some a → a.spot = none ∧ Z a.block ∧ a.block ≠ rb) (hcap : L.length ≤ cap) (hL : L.length ≤ 70368744177664) (hm : m ≤ L.length) (hB : B = A ∧ cap = m ∨ B = at_ A (m * 1))
    (hp : Put w w' rb) (hb : Blk w' rb #[.slice B (L.length - m) (cap - m), .int .i64 bad] 119) : RfA w' rb B (cap - m) (L.drop m) bad Z := by
  have hs' : Sl w B (bvs (L.drop m)) := by
    rw [← bvs_drop]
    refine hs.drop' m (fun a ha => (hA a ha).1) B ?_
    rcases hB with ⟨h1, h2⟩ | h1
    · exact Or.inl ⟨h1, by rw [bvs_length]; omega⟩
    · exact Or.inr (by simpa using h1)
  have hB' : ∀ a, B = some a → a.spot = none ∧ Z a.block ∧ a.block ≠ rb := by
    intro b hb
    rcases hB with ⟨rfl, _⟩ | rfl
    · exact hA b hb
    · cases A with
      | none => simp [at_] at hb
      | some a => simp only [at_, Option.map_some, Option.some.injEq] at hb; subst hb; exact ⟨rfl, (hA a rfl).2⟩
  refine ⟨?_, hs'.keep hp.chg fun a ha => (hB' a ha).2.2, hB', ?_, ?_⟩
  · simpa using hb
  · simp; omega
  · simp; omega

theorem open50 (A : Option Addr) (cap : Nat) (l : List UInt8) (w : World) (hs : Sl w A (bvs l)) (hl : l.length ≤ 70368744177664) : Ret Try.prog 50 #[.slice A l.length cap] w fun v w' => ∃ rb, v = .pointer (some ⟨rb, 0, none⟩) ∧ Rf w' rb (l, 0) (fresh w) ∧ Grow w w' ∧ w.heap.size ≤ rb := by
  refine Ret.enter (fn := Try.f50) (N := 8) Try.func50 rfl Try.ntmps50 rfl ?_
  repeat (first | refine WL.nil ?_ | refine WL.auto (h := ?_) | refine WL.gskip rfl rfl rfl rfl ?_ | refine WL.gauto (h := ?_) | (refine CW.seq ?_; intro K hK) | refine CW.block ?_ | refine CW.region ?_ | refine CW.skip ?_ | refine CW.exit ?_ | refine CW.ret ?_ | (refine thn_ret (K := K) ?_; clear hK K) | refine thn_ret ?_ | refine blk_ret ?_ | (refine thn_exit (K := K) ?_; clear hK K) | refine thn_exit ?_ | refine blk_here ?_ | refine blk_past rfl ?_ | refine thn_norm ?_ | refine blk_norm ?_ | refine CW.condT rfl ?_ | refine CW.condF rfl ?_ | (refine hK _ _ ?_; clear hK K))
  first | refine WL.step rfl ?_ | refine WL.gstep rfl rfl rfl rfl ?_
  refine OpW.buildNone (fun b1 w1 n1 => ?_)
  repeat (first | refine WL.nil ?_ | refine WL.auto (h := ?_) | refine WL.gskip rfl rfl rfl rfl ?_ | refine WL.gauto (h := ?_) | (refine CW.seq ?_; intro K hK) | refine CW.block ?_ | refine CW.region ?_ | refine CW.skip ?_ | refine CW.exit ?_ | refine CW.ret ?_ | (refine thn_ret (K := K) ?_; clear hK K) | refine thn_ret ?_ | refine blk_ret ?_ | (refine thn_exit (K := K) ?_; clear hK K) | refine thn_exit ?_ | refine blk_here ?_ | refine blk_past rfl ?_ | refine thn_norm ?_ | refine blk_norm ?_ | refine CW.condT rfl ?_ | refine CW.condF rfl ?_ | (refine hK _ _ ?_; clear hK K))
  first | refine WL.step rfl ?_ | refine WL.gstep rfl rfl rfl rfl ?_
  refine OpW.appB (w0 := w) (l := []) (m := l) rfl rfl rfl rfl rfl rfl (Own.empty n1) (hs.grow n1.grow) n1.grow (by simp; omega) (fun A2 c2 w2 o2 g2 _ => ?_)
  rw [List.nil_append] at o2
  rw [List.nil_append]
  repeat (first | refine WL.nil ?_ | refine WL.auto (h := ?_) | refine WL.gskip rfl rfl rfl rfl ?_ | refine WL.gauto (h := ?_) | (refine CW.seq ?_; intro K hK) | refine CW.block ?_ | refine CW.region ?_ | refine CW.skip ?_ | refine CW.exit ?_ | refine CW.ret ?_ | (refine thn_ret (K := K) ?_; clear hK K) | refine thn_ret ?_ | refine blk_ret ?_ | (refine thn_exit (K := K) ?_; clear hK K) | refine thn_exit ?_ | refine blk_here ?_ | refine blk_past rfl ?_ | refine thn_norm ?_ | refine blk_norm ?_ | refine CW.condT rfl ?_ | refine CW.condF rfl ?_ | (refine hK _ _ ?_; clear hK K))
  first | refine WL.step rfl ?_ | refine WL.gstep rfl rfl rfl rfl ?_
  refine OpW.build (cells := #[.slice A2 l.length c2, .int .i64 0]) rfl rfl ?_
  repeat (first | refine WL.nil ?_ | refine WL.auto (h := ?_) | refine WL.gskip rfl rfl rfl rfl ?_ | refine WL.gauto (h := ?_) | (refine CW.seq ?_; intro K hK) | refine CW.block ?_ | refine CW.region ?_ | refine CW.skip ?_ | refine CW.exit ?_ | refine CW.ret ?_ | (refine thn_ret (K := K) ?_; clear hK K) | refine thn_ret ?_ | refine blk_ret ?_ | (refine thn_exit (K := K) ?_; clear hK K) | refine thn_exit ?_ | refine blk_here ?_ | refine blk_past rfl ?_ | refine thn_norm ?_ | refine blk_norm ?_ | refine CW.condT rfl ?_ | refine CW.condF rfl ?_ | (refine hK _ _ ?_; clear hK K))
  first | refine WL.step rfl ?_ | refine WL.gstep rfl rfl rfl rfl ?_
  refine OpW.box (v := .agg #[.slice A2 l.length c2, .int .i64 0]) rfl ?_
  intro b w3 hn
  repeat (first | refine WL.nil ?_ | refine WL.auto (h := ?_) | refine WL.gskip rfl rfl rfl rfl ?_ | refine WL.gauto (h := ?_) | (refine CW.seq ?_; intro K hK) | refine CW.block ?_ | refine CW.region ?_ | refine CW.skip ?_ | refine CW.exit ?_ | refine CW.ret ?_ | (refine thn_ret (K := K) ?_; clear hK K) | refine thn_ret ?_ | refine blk_ret ?_ | (refine thn_exit (K := K) ?_; clear hK K) | refine thn_exit ?_ | refine blk_here ?_ | refine blk_past rfl ?_ | refine thn_norm ?_ | refine blk_norm ?_ | refine CW.condT rfl ?_ | refine CW.condF rfl ?_ | (refine hK _ _ ?_; clear hK K))
  refine out1 (v := .pointer (some ⟨b, 0, none⟩)) Try.results50 rfl ?_ (Or.inr rfl)
  refine ⟨b, rfl, ⟨A2, c2, hn.blk, (o2.grow hn.grow).sl, fun a ha => ⟨spot_own o2 a ha, (o2.in_ ha).1, ?_⟩, o2.le, hl⟩, g2.then hn.grow, Nat.le_trans g2.size hn.fresh⟩
  have h1 := (o2.in_ ha).2
  have h2 := hn.fresh
  omega

theorem take100 (rb : Nat) (A : Option Addr) (cap : Nat) (L : List UInt8) (bad : Int) (Z : Nat → Prop) (n : Nat) (w : World) (hr : RfA w rb A cap L bad Z) (hn : n ≤ 70368744177664) :
    Ret Try.prog 100 #[.pointer (some ⟨rb, 0, none⟩), .int .i64 (n : Int)] w fun v w' => Chg (· = rb) w w' ∧
      ((bad ≠ 0 ∧ v = .tuple #[.slice none 0 0, .bool false] ∧ RfA w' rb A cap L bad Z) ∨ (bad = 0 ∧ L.length < n ∧ v = .tuple #[.slice none 0 0, .bool false] ∧ RfA w' rb A cap L 20 Z) ∨
        (bad = 0 ∧ n ≤ L.length ∧ v = .tuple #[.slice A n cap, .bool true] ∧ ∃ B, RfA w' rb B (cap - n) (L.drop n) 0 Z)) := by
  obtain ⟨hb, hs, hA, hcap, hL⟩ := hr
  refine Ret.enter (fn := Try.f100) (N := 38) Try.func100 rfl Try.ntmps100 rfl ?_
  repeat (first | refine WL.nil ?_ | refine WL.auto (h := ?_) | refine WL.gskip rfl rfl rfl rfl ?_ | refine WL.gauto (h := ?_) | (refine CW.seq ?_; intro K hK) | refine CW.block ?_ | refine CW.region ?_ | refine CW.skip ?_ | refine CW.exit ?_ | refine CW.ret ?_ | (refine thn_ret (K := K) ?_; clear hK K) | refine thn_ret ?_ | refine blk_ret ?_ | (refine thn_exit (K := K) ?_; clear hK K) | refine thn_exit ?_ | refine blk_here ?_ | refine blk_past rfl ?_ | refine thn_norm ?_ | refine blk_norm ?_ | refine CW.condT rfl ?_ | refine CW.condF rfl ?_ | (refine hK _ _ ?_; clear hK K))
  refine CW.condP rfl (fun h1 => ?_) (fun h1 => ?_)
  · repeat (first | refine WL.nil ?_ | refine WL.auto (h := ?_) | refine WL.gskip rfl rfl rfl rfl ?_ | refine WL.gauto (h := ?_) | (refine CW.seq ?_; intro K hK) | refine CW.block ?_ | refine CW.region ?_ | refine CW.skip ?_ | refine CW.exit ?_ | refine CW.ret ?_ | (refine thn_ret (K := K) ?_; clear hK K) | refine thn_ret ?_ | refine blk_ret ?_ | (refine thn_exit (K := K) ?_; clear hK K) | refine thn_exit ?_ | refine blk_here ?_ | refine blk_past rfl ?_ | refine thn_norm ?_ | refine blk_norm ?_ | refine CW.condT rfl ?_ | refine CW.condF rfl ?_ | (refine hK _ _ ?_; clear hK K))
    exact out2 (v1 := .slice none 0 0) (v2 := .bool false) Try.results100 rfl rfl ⟨Chg.refl _ _, Or.inl ⟨h1, rfl, hb, hs, hA, hcap, hL⟩⟩ (Or.inr rfl)
  have hbad : bad = 0 := by omega
  subst hbad
  repeat (first | refine WL.nil ?_ | refine WL.auto (h := ?_) | refine WL.gskip rfl rfl rfl rfl ?_ | refine WL.gauto (h := ?_) | (refine CW.seq ?_; intro K hK) | refine CW.block ?_ | refine CW.region ?_ | refine CW.skip ?_ | refine CW.exit ?_ | refine CW.ret ?_ | (refine thn_ret (K := K) ?_; clear hK K) | refine thn_ret ?_ | refine blk_ret ?_ | (refine thn_exit (K := K) ?_; clear hK K) | refine thn_exit ?_ | refine blk_here ?_ | refine blk_past rfl ?_ | refine thn_norm ?_ | refine blk_norm ?_ | refine CW.condT rfl ?_ | refine CW.condF rfl ?_ | (refine hK _ _ ?_; clear hK K))
  refine CW.condP rfl (fun h2 => ?_) (fun h2 => ?_)
  · repeat (first | refine WL.nil ?_ | refine WL.auto (h := ?_) | refine WL.gskip rfl rfl rfl rfl ?_ | refine WL.gauto (h := ?_) | (refine CW.seq ?_; intro K hK) | refine CW.block ?_ | refine CW.region ?_ | refine CW.skip ?_ | refine CW.exit ?_ | refine CW.ret ?_ | (refine thn_ret (K := K) ?_; clear hK K) | refine thn_ret ?_ | refine blk_ret ?_ | (refine thn_exit (K := K) ?_; clear hK K) | refine thn_exit ?_ | refine blk_here ?_ | refine blk_past rfl ?_ | refine thn_norm ?_ | refine blk_norm ?_ | refine CW.condT rfl ?_ | refine CW.condF rfl ?_ | (refine hK _ _ ?_; clear hK K))
    refine WL.step0 ?_
    refine OpW.store (v := .int _ _) rfl rfl rfl hb rfl (c' := #[_, _]) rfl ?_
    intro w1 hp hb1
    repeat (first | refine WL.nil ?_ | refine WL.auto (h := ?_) | refine WL.gskip rfl rfl rfl rfl ?_ | refine WL.gauto (h := ?_) | (refine CW.seq ?_; intro K hK) | refine CW.block ?_ | refine CW.region ?_ | refine CW.skip ?_ | refine CW.exit ?_ | refine CW.ret ?_ | (refine thn_ret (K := K) ?_; clear hK K) | refine thn_ret ?_ | refine blk_ret ?_ | (refine thn_exit (K := K) ?_; clear hK K) | refine thn_exit ?_ | refine blk_here ?_ | refine blk_past rfl ?_ | refine thn_norm ?_ | refine blk_norm ?_ | refine CW.condT rfl ?_ | refine CW.condF rfl ?_ | (refine hK _ _ ?_; clear hK K))
    exact out2 (v1 := .slice none 0 0) (v2 := .bool false) Try.results100 rfl rfl ⟨hp.chg, Or.inr (Or.inl ⟨rfl, by omega, rfl, RfA.turn hs hA hcap hL hp.chg hb1⟩)⟩ (Or.inr rfl)
  · repeat (first | refine WL.nil ?_ | refine WL.auto (h := ?_) | refine WL.gskip rfl rfl rfl rfl ?_ | refine WL.gauto (h := ?_) | (refine CW.seq ?_; intro K hK) | refine CW.block ?_ | refine CW.region ?_ | refine CW.skip ?_ | refine CW.exit ?_ | refine CW.ret ?_ | (refine thn_ret (K := K) ?_; clear hK K) | refine thn_ret ?_ | refine blk_ret ?_ | (refine thn_exit (K := K) ?_; clear hK K) | refine thn_exit ?_ | refine blk_here ?_ | refine blk_past rfl ?_ | refine thn_norm ?_ | refine blk_norm ?_ | refine CW.condT rfl ?_ | refine CW.condF rfl ?_ | (refine hK _ _ ?_; clear hK K))
    first | refine WL.step rfl ?_ | refine WL.gstep rfl rfl rfl rfl ?_
    refine OpW.sliceHi n rfl rfl rfl (by omega) ?_
    repeat (first | refine WL.nil ?_ | refine WL.auto (h := ?_) | refine WL.gskip rfl rfl rfl rfl ?_ | refine WL.gauto (h := ?_) | (refine CW.seq ?_; intro K hK) | refine CW.block ?_ | refine CW.region ?_ | refine CW.skip ?_ | refine CW.exit ?_ | refine CW.ret ?_ | (refine thn_ret (K := K) ?_; clear hK K) | refine thn_ret ?_ | refine blk_ret ?_ | (refine thn_exit (K := K) ?_; clear hK K) | refine thn_exit ?_ | refine blk_here ?_ | refine blk_past rfl ?_ | refine thn_norm ?_ | refine blk_norm ?_ | refine CW.condT rfl ?_ | refine CW.condF rfl ?_ | (refine hK _ _ ?_; clear hK K))
    first | refine WL.step rfl ?_ | refine WL.gstep rfl rfl rfl rfl ?_
    refine OpW.sliceLo n rfl rfl rfl (by omega) (fun a ha => (hA a ha).1) ?_
    intro B hB
    repeat (first | refine WL.nil ?_ | refine WL.auto (h := ?_) | refine WL.gskip rfl rfl rfl rfl ?_ | refine WL.gauto (h := ?_) | (refine CW.seq ?_; intro K hK) | refine CW.block ?_ | refine CW.region ?_ | refine CW.skip ?_ | refine CW.exit ?_ | refine CW.ret ?_ | (refine thn_ret (K := K) ?_; clear hK K) | refine thn_ret ?_ | refine blk_ret ?_ | (refine thn_exit (K := K) ?_; clear hK K) | refine thn_exit ?_ | refine blk_here ?_ | refine blk_past rfl ?_ | refine thn_norm ?_ | refine blk_norm ?_ | refine CW.condT rfl ?_ | refine CW.condF rfl ?_ | (refine hK _ _ ?_; clear hK K))
    refine WL.step0 ?_
    refine OpW.store (v := .slice _ _ _) rfl rfl rfl hb rfl (c' := #[_, _]) rfl ?_
    intro w2 hp hb2
    repeat (first | refine WL.nil ?_ | refine WL.auto (h := ?_) | refine WL.gskip rfl rfl rfl rfl ?_ | refine WL.gauto (h := ?_) | (refine CW.seq ?_; intro K hK) | refine CW.block ?_ | refine CW.region ?_ | refine CW.skip ?_ | refine CW.exit ?_ | refine CW.ret ?_ | (refine thn_ret (K := K) ?_; clear hK K) | refine thn_ret ?_ | refine blk_ret ?_ | (refine thn_exit (K := K) ?_; clear hK K) | refine thn_exit ?_ | refine blk_here ?_ | refine blk_past rfl ?_ | refine thn_norm ?_ | refine blk_norm ?_ | refine CW.condT rfl ?_ | refine CW.condF rfl ?_ | (refine hK _ _ ?_; clear hK K))
    exact out2 (v1 := .slice A n cap) (v2 := .bool true) Try.results100 rfl rfl ⟨hp.chg, Or.inr (Or.inr ⟨rfl, by omega, rfl, B, RfA.cut hs hA hcap hL (by omega) hB hp hb2⟩)⟩ (Or.inr rfl)

theorem number101 (A : Option Addr) (cap : Nat) (l : List UInt8) (w : World) (hs : Sl w A (bvs l)) (hl : l.length ≤ 8) : Ret Try.prog 101 #[.slice A l.length cap] w fun v w' => v = .int .u64 (numOf l : Int) ∧ Grow w w' := by
  refine Ret.enter (fn := Try.f101) (N := 20) Try.func101 rfl Try.ntmps101 rfl ?_
  repeat (first | refine WL.nil ?_ | refine WL.auto (h := ?_) | refine WL.gskip rfl rfl rfl rfl ?_ | refine WL.gauto (h := ?_) | (refine CW.seq ?_; intro K hK) | refine CW.block ?_ | refine CW.region ?_ | refine CW.skip ?_ | refine CW.exit ?_ | refine CW.ret ?_ | (refine thn_ret (K := K) ?_; clear hK K) | refine thn_ret ?_ | refine blk_ret ?_ | (refine thn_exit (K := K) ?_; clear hK K) | refine thn_exit ?_ | refine blk_here ?_ | refine blk_past rfl ?_ | refine thn_norm ?_ | refine blk_norm ?_ | refine CW.condT rfl ?_ | refine CW.condF rfl ?_ | (refine hK _ _ ?_; clear hK K))
  refine CW.loop (fun m e w2 => ∃ k, k ≤ l.length ∧ m = l.length - k ∧ Grow w w2 ∧ ∃ e0, e = upd (upd (upd e0 0 (.slice A l.length cap)) 3 (.int .u64 (numOf (l.take k)))) 4 (.int .i64 k)) l.length ?_ ?_
  · exact ⟨0, by omega, by omega, Chg.refl _ _, rep3 rfl rfl rfl⟩
  rintro m e w2 ⟨k, hk, rfl, hg2, e0, rfl⟩ KJ hJ
  repeat (first | refine WL.nil ?_ | refine WL.auto (h := ?_) | refine WL.gskip rfl rfl rfl rfl ?_ | refine WL.gauto (h := ?_) | (refine CW.seq ?_; intro K hK) | refine CW.block ?_ | refine CW.region ?_ | refine CW.skip ?_ | refine CW.exit ?_ | refine CW.ret ?_ | (refine thn_ret (K := K) ?_; clear hK K) | refine thn_ret ?_ | refine blk_ret ?_ | (refine thn_exit (K := K) ?_; clear hK K) | refine thn_exit ?_ | refine blk_here ?_ | refine blk_past rfl ?_ | refine thn_norm ?_ | refine blk_norm ?_ | refine CW.condT rfl ?_ | refine CW.condF rfl ?_ | (refine hK _ _ ?_; clear hK K))
  refine CW.condP rfl (fun h4 => ?_) (fun h4 => ?_)
  · have hkl : k < l.length := by omega
    have hb1 : k < (bvs l).length := by rw [bvs_length]; exact hkl
    have hlt : numOf (l.take k) < 2 ^ 56 := by
      have := numOf_lt (l.take k)
      refine Nat.lt_of_lt_of_le this ?_
      have hle : (l.take k).length ≤ 7 := by rw [List.length_take]; omega
      exact Nat.le_trans (Nat.pow_le_pow_right (by decide) hle) (by decide)
    have hsn : numOf (l.take (k + 1)) = 256 * numOf (l.take k) + l[k].toNat := by
      rw [List.take_succ_eq_append_getElem hkl, numOf_snoc]
    have hc := l[k].toNat_lt
    repeat (first | refine WL.nil ?_ | refine WL.auto (h := ?_) | refine WL.gskip rfl rfl rfl rfl ?_ | refine WL.gauto (h := ?_) | (refine CW.seq ?_; intro K hK) | refine CW.block ?_ | refine CW.region ?_ | refine CW.skip ?_ | refine CW.exit ?_ | refine CW.ret ?_ | (refine thn_ret (K := K) ?_; clear hK K) | refine thn_ret ?_ | refine blk_ret ?_ | (refine thn_exit (K := K) ?_; clear hK K) | refine thn_exit ?_ | refine blk_here ?_ | refine blk_past rfl ?_ | refine thn_norm ?_ | refine blk_norm ?_ | refine CW.condT rfl ?_ | refine CW.condF rfl ?_ | (refine hK _ _ ?_; clear hK K))
    first | refine WL.step rfl ?_ | refine WL.gstep rfl rfl rfl rfl ?_
    refine OpW.mul (k := .u64) rfl rfl ?_
    rw [wrap_u64 (by omega) (by omega)]
    repeat (first | refine WL.nil ?_ | refine WL.auto (h := ?_) | refine WL.gskip rfl rfl rfl rfl ?_ | refine WL.gauto (h := ?_) | (refine CW.seq ?_; intro K hK) | refine CW.block ?_ | refine CW.region ?_ | refine CW.skip ?_ | refine CW.exit ?_ | refine CW.ret ?_ | (refine thn_ret (K := K) ?_; clear hK K) | refine thn_ret ?_ | refine blk_ret ?_ | (refine thn_exit (K := K) ?_; clear hK K) | refine thn_exit ?_ | refine blk_here ?_ | refine blk_past rfl ?_ | refine thn_norm ?_ | refine blk_norm ?_ | refine CW.condT rfl ?_ | refine CW.condF rfl ?_ | (refine hK _ _ ?_; clear hK K))
    first | refine WL.step rfl ?_ | refine WL.gstep rfl rfl rfl rfl ?_
    refine OpW.indexAddr k rfl rfl rfl hkl (sl_ne hs hb1) (sl_sp hs hb1) ?_
    repeat (first | refine WL.nil ?_ | refine WL.auto (h := ?_) | refine WL.gskip rfl rfl rfl rfl ?_ | refine WL.gauto (h := ?_) | (refine CW.seq ?_; intro K hK) | refine CW.block ?_ | refine CW.region ?_ | refine CW.skip ?_ | refine CW.exit ?_ | refine CW.ret ?_ | (refine thn_ret (K := K) ?_; clear hK K) | refine thn_ret ?_ | refine blk_ret ?_ | (refine thn_exit (K := K) ?_; clear hK K) | refine thn_exit ?_ | refine blk_here ?_ | refine blk_past rfl ?_ | refine thn_norm ?_ | refine blk_norm ?_ | refine CW.condT rfl ?_ | refine CW.condF rfl ?_ | (refine hK _ _ ?_; clear hK K))
    first | refine WL.step rfl ?_ | refine WL.gstep rfl rfl rfl rfl ?_
    refine OpW.loadS (v := bv l[k]) rfl (hs.grow hg2) (by simpa using bvs_at hkl) ?_
    repeat (first | refine WL.nil ?_ | refine WL.auto (h := ?_) | refine WL.gskip rfl rfl rfl rfl ?_ | refine WL.gauto (h := ?_) | (refine CW.seq ?_; intro K hK) | refine CW.block ?_ | refine CW.region ?_ | refine CW.skip ?_ | refine CW.exit ?_ | refine CW.ret ?_ | (refine thn_ret (K := K) ?_; clear hK K) | refine thn_ret ?_ | refine blk_ret ?_ | (refine thn_exit (K := K) ?_; clear hK K) | refine thn_exit ?_ | refine blk_here ?_ | refine blk_past rfl ?_ | refine thn_norm ?_ | refine blk_norm ?_ | refine CW.condT rfl ?_ | refine CW.condF rfl ?_ | (refine hK _ _ ?_; clear hK K))
    exact hJ (l.length - (k + 1)) _ _ (by omega) ⟨k + 1, by omega, rfl, hg2, rep3 rfl (congrArg (Value.int .u64) (by rw [hsn]; omega)) (congrArg (Value.int .i64) (by omega))⟩
  · have hkk : k = l.length := by omega
    subst hkk
    repeat (first | refine WL.nil ?_ | refine WL.auto (h := ?_) | refine WL.gskip rfl rfl rfl rfl ?_ | refine WL.gauto (h := ?_) | (refine CW.seq ?_; intro K hK) | refine CW.block ?_ | refine CW.region ?_ | refine CW.skip ?_ | refine CW.exit ?_ | refine CW.ret ?_ | (refine thn_ret (K := K) ?_; clear hK K) | refine thn_ret ?_ | refine blk_ret ?_ | (refine thn_exit (K := K) ?_; clear hK K) | refine thn_exit ?_ | refine blk_here ?_ | refine blk_past rfl ?_ | refine thn_norm ?_ | refine blk_norm ?_ | refine CW.condT rfl ?_ | refine CW.condF rfl ?_ | (refine hK _ _ ?_; clear hK K))
    exact out1 (v := .int .u64 (numOf l)) Try.results101 (congrArg (Value.int .u64) (by rw [List.take_length])) ⟨rfl, hg2⟩ (Or.inr rfl)
end B
end Go.Proofs.Ytlofcomnhecgfaa
/- The document's reader's calls: the same answers as the plain reader's. Sizes are bounded. -/
namespace Go.Proofs.Ytlofcomnhecgfaa
namespace B
attribute [local irreducible] OpW WL CW Ret Sl Blk thn blk outOf
set_option linter.unusedVariables false
set_option linter.unusedSimpArgs false

theorem rNum_bad {L : List UInt8} {bad : Int} {a n : Nat} (h : bad ≠ 0) : rNum (L, bad) a n = (0, false, (L, bad)) := by unfold rNum; rw [if_pos h]
theorem rNum_short {L : List UInt8} {a n : Nat} (h : L.length < a + n) : rNum (L, 0) a n = (0, false, (L, 20)) := by unfold rNum; rw [if_neg (by simp), if_pos h]
theorem rNum_good {L : List UInt8} {a n : Nat} (h : ¬ L.length < a + n) : rNum (L, 0) a n = (numOf ((L.drop a).take n), true, (L, 0)) := by unfold rNum; rw [if_neg (by simp), if_neg h]

theorem N77 (rb : Nat) (s : RS) (Z : Nat → Prop) (w : World) (hr : Rf w rb s Z) : Ret Try.prog 77 #[.pointer (some ⟨rb, 0, none⟩)] w fun v w' => v = .int .u64 ((rN s).1 : Int) ∧ Rf w' rb (rN s).2 Z ∧ Chg (· = rb) w w' := by
  obtain ⟨L, bad⟩ := s
  obtain ⟨A, cap, hr⟩ := hr
  simp only at hr
  refine Ret.enter (fn := Try.f77) (N := 14) Try.func77 rfl Try.ntmps77 rfl ?_
  repeat (first | refine WL.nil ?_ | refine WL.auto (h := ?_) | refine WL.gskip rfl rfl rfl rfl ?_ | refine WL.gauto (h := ?_) | (refine CW.seq ?_; intro K hK) | refine CW.block ?_ | refine CW.region ?_ | refine CW.skip ?_ | refine CW.exit ?_ | refine CW.ret ?_ | (refine thn_ret (K := K) ?_; clear hK K) | refine thn_ret ?_ | refine blk_ret ?_ | (refine thn_exit (K := K) ?_; clear hK K) | refine thn_exit ?_ | refine blk_here ?_ | refine blk_past rfl ?_ | refine thn_norm ?_ | refine blk_norm ?_ | refine CW.condT rfl ?_ | refine CW.condF rfl ?_ | (refine hK _ _ ?_; clear hK K))
  first | refine WL.step rfl ?_ | refine WL.gstep rfl rfl rfl rfl ?_
  refine OpW.call ((take100 rb A cap L bad Z 8 w hr (by omega)).mono ?_) rfl
  have hh := hr
  obtain ⟨hb, hs, hA, hcap, hL⟩ := hh
  rintro v w1 ⟨hc, ⟨h1, rfl, hr1⟩ | ⟨rfl, h1, rfl, hr1⟩ | ⟨rfl, h1, rfl, B, hr1⟩⟩
  · have e1 : rN (L, bad) = (0, (L, bad)) := by unfold rN; rw [rNum_bad h1]; rfl
    repeat (first | refine WL.nil ?_ | refine WL.auto (h := ?_) | refine WL.gskip rfl rfl rfl rfl ?_ | refine WL.gauto (h := ?_) | (refine CW.seq ?_; intro K hK) | refine CW.block ?_ | refine CW.region ?_ | refine CW.skip ?_ | refine CW.exit ?_ | refine CW.ret ?_ | (refine thn_ret (K := K) ?_; clear hK K) | refine thn_ret ?_ | refine blk_ret ?_ | (refine thn_exit (K := K) ?_; clear hK K) | refine thn_exit ?_ | refine blk_here ?_ | refine blk_past rfl ?_ | refine thn_norm ?_ | refine blk_norm ?_ | refine CW.condT rfl ?_ | refine CW.condF rfl ?_ | (refine hK _ _ ?_; clear hK K))
    refine out1 (v := .int .u64 0) Try.results77 rfl ?_ (Or.inr rfl)
    rw [e1]
    exact ⟨rfl, ⟨A, cap, hr1⟩, hc⟩
  · have e1 : rN (L, 0) = (0, (L, 20)) := by unfold rN; rw [rNum_short (by omega)]; rfl
    repeat (first | refine WL.nil ?_ | refine WL.auto (h := ?_) | refine WL.gskip rfl rfl rfl rfl ?_ | refine WL.gauto (h := ?_) | (refine CW.seq ?_; intro K hK) | refine CW.block ?_ | refine CW.region ?_ | refine CW.skip ?_ | refine CW.exit ?_ | refine CW.ret ?_ | (refine thn_ret (K := K) ?_; clear hK K) | refine thn_ret ?_ | refine blk_ret ?_ | (refine thn_exit (K := K) ?_; clear hK K) | refine thn_exit ?_ | refine blk_here ?_ | refine blk_past rfl ?_ | refine thn_norm ?_ | refine blk_norm ?_ | refine CW.condT rfl ?_ | refine CW.condF rfl ?_ | (refine hK _ _ ?_; clear hK K))
    refine out1 (v := .int .u64 0) Try.results77 rfl ?_ (Or.inr rfl)
    rw [e1]
    exact ⟨rfl, ⟨A, cap, hr1⟩, hc⟩
  · have e1 : rN (L, 0) = (numOf (L.take 8), (L.drop 8, 0)) := by unfold rN; rw [rNum_good (by omega)]; rfl
    repeat (first | refine WL.nil ?_ | refine WL.auto (h := ?_) | refine WL.gskip rfl rfl rfl rfl ?_ | refine WL.gauto (h := ?_) | (refine CW.seq ?_; intro K hK) | refine CW.block ?_ | refine CW.region ?_ | refine CW.skip ?_ | refine CW.exit ?_ | refine CW.ret ?_ | (refine thn_ret (K := K) ?_; clear hK K) | refine thn_ret ?_ | refine blk_ret ?_ | (refine thn_exit (K := K) ?_; clear hK K) | refine thn_exit ?_ | refine blk_here ?_ | refine blk_past rfl ?_ | refine thn_norm ?_ | refine blk_norm ?_ | refine CW.condT rfl ?_ | refine CW.condF rfl ?_ | (refine hK _ _ ?_; clear hK K))
    first | refine WL.step rfl ?_ | refine WL.gstep rfl rfl rfl rfl ?_
    have hs1 : Sl w1 A (bvs (L.take 8)) := by
      have := (hs.keep hc fun a ha => (hA a ha).2.2).take 8
      rwa [bvs_take] at this
    have h8 : (L.take 8).length = 8 := by simp; omega
    have hN := number101 A cap (L.take 8) w1 hs1 (by omega)
    rw [h8] at hN
    refine OpW.call (hN.mono ?_) rfl
    rintro v w2 ⟨rfl, g2⟩
    repeat (first | refine WL.nil ?_ | refine WL.auto (h := ?_) | refine WL.gskip rfl rfl rfl rfl ?_ | refine WL.gauto (h := ?_) | (refine CW.seq ?_; intro K hK) | refine CW.block ?_ | refine CW.region ?_ | refine CW.skip ?_ | refine CW.exit ?_ | refine CW.ret ?_ | (refine thn_ret (K := K) ?_; clear hK K) | refine thn_ret ?_ | refine blk_ret ?_ | (refine thn_exit (K := K) ?_; clear hK K) | refine thn_exit ?_ | refine blk_here ?_ | refine blk_past rfl ?_ | refine thn_norm ?_ | refine blk_norm ?_ | refine CW.condT rfl ?_ | refine CW.condF rfl ?_ | (refine hK _ _ ?_; clear hK K))
    refine out1 Try.results77 rfl ?_ (Or.inr rfl)
    rw [e1]
    exact ⟨rfl, Rf.grow ⟨B, cap - 8, hr1⟩ g2, hc.grow g2⟩

theorem Err82 (rb : Nat) (s : RS) (Z : Nat → Prop) (w : World) (hr : Rf w rb s Z) : Ret Try.prog 82 #[.pointer (some ⟨rb, 0, none⟩)] w fun v w' => v = .int .i64 s.2 ∧ Grow w w' := by
  obtain ⟨A, cap, hb, hs, hA, hcap, hL⟩ := hr
  refine Ret.enter (fn := Try.f82) (N := 7) Try.func82 rfl Try.ntmps82 rfl ?_
  repeat (first | refine WL.nil ?_ | refine WL.auto (h := ?_) | refine WL.gskip rfl rfl rfl rfl ?_ | refine WL.gauto (h := ?_) | (refine CW.seq ?_; intro K hK) | refine CW.block ?_ | refine CW.region ?_ | refine CW.skip ?_ | refine CW.exit ?_ | refine CW.ret ?_ | (refine thn_ret (K := K) ?_; clear hK K) | refine thn_ret ?_ | refine blk_ret ?_ | (refine thn_exit (K := K) ?_; clear hK K) | refine thn_exit ?_ | refine blk_here ?_ | refine blk_past rfl ?_ | refine thn_norm ?_ | refine blk_norm ?_ | refine CW.condT rfl ?_ | refine CW.condF rfl ?_ | (refine hK _ _ ?_; clear hK K))
  exact out1 Try.results82 rfl ⟨rfl, Chg.refl _ _⟩ (Or.inr rfl)
theorem Left52 (rb : Nat) (s : RS) (Z : Nat → Prop) (w : World) (hr : Rf w rb s Z) : Ret Try.prog 52 #[.pointer (some ⟨rb, 0, none⟩)] w fun v w' => v = .int .i64 (s.1.length : Int) ∧ Grow w w' := by
  obtain ⟨A, cap, hb, hs, hA, hcap, hL⟩ := hr
  refine Ret.enter (fn := Try.f52) (N := 8) Try.func52 rfl Try.ntmps52 rfl ?_
  repeat (first | refine WL.nil ?_ | refine WL.auto (h := ?_) | refine WL.gskip rfl rfl rfl rfl ?_ | refine WL.gauto (h := ?_) | (refine CW.seq ?_; intro K hK) | refine CW.block ?_ | refine CW.region ?_ | refine CW.skip ?_ | refine CW.exit ?_ | refine CW.ret ?_ | (refine thn_ret (K := K) ?_; clear hK K) | refine thn_ret ?_ | refine blk_ret ?_ | (refine thn_exit (K := K) ?_; clear hK K) | refine thn_exit ?_ | refine blk_here ?_ | refine blk_past rfl ?_ | refine thn_norm ?_ | refine blk_norm ?_ | refine CW.condT rfl ?_ | refine CW.condF rfl ?_ | (refine hK _ _ ?_; clear hK K))
  exact out1 Try.results52 rfl ⟨rfl, Chg.refl _ _⟩ (Or.inr rfl)
theorem End53 (rb : Nat) (s : RS) (Z : Nat → Prop) (w : World) (hr : Rf w rb s Z) : Ret Try.prog 53 #[.pointer (some ⟨rb, 0, none⟩)] w fun v w' => v = .int .i64 (rEnd s) ∧ Grow w w' := by
  obtain ⟨L, bad⟩ := s
  obtain ⟨A, cap, hb, hs, hA, hcap, hL⟩ := hr
  simp only at hb hs hcap hL
  refine Ret.enter (fn := Try.f53) (N := 20) Try.func53 rfl Try.ntmps53 rfl ?_
  by_cases h1 : bad = 0
  · subst h1
    repeat (first | refine WL.nil ?_ | refine WL.auto (h := ?_) | refine WL.gskip rfl rfl rfl rfl ?_ | refine WL.gauto (h := ?_) | (refine CW.seq ?_; intro K hK) | refine CW.block ?_ | refine CW.region ?_ | refine CW.skip ?_ | refine CW.exit ?_ | refine CW.ret ?_ | (refine thn_ret (K := K) ?_; clear hK K) | refine thn_ret ?_ | refine blk_ret ?_ | (refine thn_exit (K := K) ?_; clear hK K) | refine thn_exit ?_ | refine blk_here ?_ | refine blk_past rfl ?_ | refine thn_norm ?_ | refine blk_norm ?_ | refine CW.condT rfl ?_ | refine CW.condF rfl ?_ | (refine hK _ _ ?_; clear hK K))
    refine CW.condP rfl (fun h2 => ?_) (fun h2 => ?_)
    · repeat (first | refine WL.nil ?_ | refine WL.auto (h := ?_) | refine WL.gskip rfl rfl rfl rfl ?_ | refine WL.gauto (h := ?_) | (refine CW.seq ?_; intro K hK) | refine CW.block ?_ | refine CW.region ?_ | refine CW.skip ?_ | refine CW.exit ?_ | refine CW.ret ?_ | (refine thn_ret (K := K) ?_; clear hK K) | refine thn_ret ?_ | refine blk_ret ?_ | (refine thn_exit (K := K) ?_; clear hK K) | refine thn_exit ?_ | refine blk_here ?_ | refine blk_past rfl ?_ | refine thn_norm ?_ | refine blk_norm ?_ | refine CW.condT rfl ?_ | refine CW.condF rfl ?_ | (refine hK _ _ ?_; clear hK K))
      refine out1 (v := .int .i64 23) Try.results53 rfl ⟨?_, Chg.refl _ _⟩ (Or.inr rfl)
      have : L ≠ [] := fun h => by subst h; simp at h2
      simp [rEnd, this]
    · repeat (first | refine WL.nil ?_ | refine WL.auto (h := ?_) | refine WL.gskip rfl rfl rfl rfl ?_ | refine WL.gauto (h := ?_) | (refine CW.seq ?_; intro K hK) | refine CW.block ?_ | refine CW.region ?_ | refine CW.skip ?_ | refine CW.exit ?_ | refine CW.ret ?_ | (refine thn_ret (K := K) ?_; clear hK K) | refine thn_ret ?_ | refine blk_ret ?_ | (refine thn_exit (K := K) ?_; clear hK K) | refine thn_exit ?_ | refine blk_here ?_ | refine blk_past rfl ?_ | refine thn_norm ?_ | refine blk_norm ?_ | refine CW.condT rfl ?_ | refine CW.condF rfl ?_ | (refine hK _ _ ?_; clear hK K))
      refine out1 (v := .int .i64 0) Try.results53 rfl ⟨?_, Chg.refl _ _⟩ (Or.inr rfl)
      have : L = [] := List.eq_nil_of_length_eq_zero (by omega)
      simp [rEnd, this]
  · repeat (first | refine WL.nil ?_ | refine WL.auto (h := ?_) | refine WL.gskip rfl rfl rfl rfl ?_ | refine WL.gauto (h := ?_) | (refine CW.seq ?_; intro K hK) | refine CW.block ?_ | refine CW.region ?_ | refine CW.skip ?_ | refine CW.exit ?_ | refine CW.ret ?_ | (refine thn_ret (K := K) ?_; clear hK K) | refine thn_ret ?_ | refine blk_ret ?_ | (refine thn_exit (K := K) ?_; clear hK K) | refine thn_exit ?_ | refine blk_here ?_ | refine blk_past rfl ?_ | refine thn_norm ?_ | refine blk_norm ?_ | refine CW.condT rfl ?_ | refine CW.condF rfl ?_ | (refine hK _ _ ?_; clear hK K))
    rw [show decide (bad = 0) = false from decide_eq_false h1]
    repeat (first | refine WL.nil ?_ | refine WL.auto (h := ?_) | refine WL.gskip rfl rfl rfl rfl ?_ | refine WL.gauto (h := ?_) | (refine CW.seq ?_; intro K hK) | refine CW.block ?_ | refine CW.region ?_ | refine CW.skip ?_ | refine CW.exit ?_ | refine CW.ret ?_ | (refine thn_ret (K := K) ?_; clear hK K) | refine thn_ret ?_ | refine blk_ret ?_ | (refine thn_exit (K := K) ?_; clear hK K) | refine thn_exit ?_ | refine blk_here ?_ | refine blk_past rfl ?_ | refine thn_norm ?_ | refine blk_norm ?_ | refine CW.condT rfl ?_ | refine CW.condF rfl ?_ | (refine hK _ _ ?_; clear hK K))
    refine out1 (v := .int .i64 bad) Try.results53 rfl ⟨?_, Chg.refl _ _⟩ (Or.inr rfl)
    simp [rEnd, h1]
end B
end Go.Proofs.Ytlofcomnhecgfaa
/- A literal of one element of several cells; slices by bounds. No conditions. -/
namespace Go.Proofs.Ytlofcomnhecgfaa
namespace B
set_option linter.unusedVariables false
set_option linter.unusedSimpArgs false

theorem fold_set (vs : List Value) : ∀ (j : Nat) (cells : Array Value), j + vs.length ≤ cells.size →
    (vs.zipIdx j).foldl (fun (cs : Array Value) (x : Value × Nat) => cs.setIfInBounds (0 + x.2) x.1) cells = (cells.toList.take j ++ vs ++ cells.toList.drop (j + vs.length)).toArray := by
  induction vs with
  | nil => intro j cells h; simp
  | cons v vs ih =>
    intro j cells h
    simp only [List.length_cons] at h
    simp only [List.zipIdx_cons, List.foldl_cons]
    rw [ih (j + 1) _ (by simp; omega)]
    congr 1
    rw [Nat.zero_add, Array.toList_setIfInBounds]
    exact list_seg_step cells.toList j v vs (by simp; omega)
theorem fill_whole {k : Nat} {v : Value} {cells : Array Value} (hv : v.cells.size = k) (hc : cells.size = k) : Instr.fill (fun i => some (i * k, k)) cells [(0, v)] = some v.cells := by
  subst hv
  simp only [Instr.fill, Nat.zero_mul]
  rw [if_neg (by simp; omega)]
  have h := fold_set v.cells.toList 0 cells (by simp; omega)
  rw [← Array.foldl_toList, Array.toList_zipIdx]
  erw [h]
  rw [List.drop_of_length_le (by simp; omega)]
  simp
/-- x[:m:c]. -/
theorem Own.cut {w : World} {A : Option Addr} {E : TypeId} {k n cap : Nat} {xs : List Value} {Z : Nat → Prop} (h : Own w A E k n cap xs Z) (m c : Nat) (hm : m ≤ n) (hc : m ≤ c) (hcap : c ≤ cap) : Own w A E k m c (xs.take (m * k)) Z := by
  obtain ⟨h1, h2⟩ := h
  have hmk : m * k ≤ n * k := Nat.mul_le_mul_right _ hm
  refine ⟨by rw [List.length_take, h1]; exact Nat.min_eq_left hmk, h2.imp ?_ ?_⟩
  · rintro ⟨q1, q2, q3⟩
    exact ⟨q1, by omega, by omega⟩
  · rintro ⟨g, cur, q1, q2, q3, q4, q5, q6, q7⟩
    refine ⟨g, cur, q1, q2, q3, hc, by omega, Nat.le_trans (Nat.mul_le_mul_right _ hcap) q6, ?_⟩
    rw [← q7, List.take_take, Nat.min_eq_left hmk]
/-- Of an empty slice nothing is asked. -/
theorem Sl.keepN {S : Nat → Prop} {w w' : World} {A : Option Addr} {cs : List Value} (h : Sl w A cs) (hc : Chg S w w') (hn : cs ≠ [] → ∀ a, A = some a → ¬ S a.block) : Sl w' A cs := by
  by_cases h0 : cs = []
  · subst h0; exact Sl.nil _ _
  · exact h.keep hc (hn h0)
theorem bvs_ne {l : List UInt8} (h : bvs l ≠ []) : l ≠ [] := fun e => h (by rw [e]; rfl)
theorem ne_bvs {l : List UInt8} (h : l ≠ []) : bvs l ≠ [] := fun e => h (by cases l <;> simp_all [bvs])
/-- What is read lies in what there is. -/
theorem Sl.lt {w : World} {A : Option Addr} {cs : List Value} (h : Sl w A cs) (hn : cs ≠ []) {a : Addr} (ha : A = some a) : a.block < w.heap.size := by
  obtain ⟨v, hv⟩ : ∃ v, cs[0]? = some v := by
    cases cs with
    | nil => exact absurd rfl hn
    | cons v l => exact ⟨v, rfl⟩
  obtain ⟨a', h1, _, h3⟩ := h 0 v hv
  rw [ha] at h1; cases h1
  have h4 := World.block_lt_of_cell? w _ h3
  exact h4
theorem lit1 (vs : List Value) (h : vs.all (·.oneCell') = true) : ∀ v ∈ vs, v.cells = #[v] := by
  intro v hv
  have h1 := List.all_eq_true.1 h v hv
  cases v <;> first | rfl | exact Bool.noConfusion h1
theorem one1 (vs : List Value) (h : vs.all (·.oneCell') = true) : ∀ v ∈ vs, v.oneCell' = true := fun v hv => List.all_eq_true.1 h v hv
section
variable {P : Program} {e : Env} {w : World} {K : Value → World → Prop} {ty : TypeId}
/-- []T{x}: x of several cells. -/
theorem OpW.buildOne {t E k by_ : Nat} {z : Value} {x : Operand} (v : Value) [ht : ElemT P t E k by_ z] [hz : ZeroT P E z] (hx : ev e x = v) (hv : v.cells.size = k) (hk : Nat.ble (1 * k) (2 ^ 24) = true)
    (h : ∀ b w', New w w' b (.cells v.cells E) → K (.slice (some ⟨b, 0, none⟩) 1 1) w') : OpW P (.buildSlice t 1 #[(0, x)]) ty e w K := by
  refine OpW.buildSlice (ps := #[(0, v)]) (cells := v.cells) (by simp [hx]) hk ?_ h
  exact fill_whole hv (by simp)
end
end B
end Go.Proofs.Ytlofcomnhecgfaa
/- Elements of several cells: one cell written, one element's cells. No conditions. -/
namespace Go.Proofs.Ytlofcomnhecgfaa
namespace B
set_option linter.unusedVariables false
set_option linter.unusedSimpArgs false
/-- Three cells of one element, one of them written. -/
theorem part_set_ne {l : List Value} {k i j c : Nat} {v : Value} (hij : j ≠ i) (hc : c < k) : ((l.set (i * k + c) v).drop (j * k)).take k = (l.drop (j * k)).take k := by
  apply List.ext_getElem?
  intro q
  rw [List.getElem?_take, List.getElem?_take]
  split
  · rename_i hq
    rw [List.getElem?_drop, List.getElem?_drop, List.getElem?_set_ne]
    intro e
    rcases Nat.lt_or_gt_of_ne hij with h | h
    · have := Nat.mul_le_mul_right k (show j + 1 ≤ i from h)
      rw [Nat.add_mul] at this
      omega
    · have := Nat.mul_le_mul_right k (show i + 1 ≤ j from h)
      rw [Nat.add_mul] at this
      omega
  · rfl
theorem part_set_self {l : List Value} {k i c : Nat} {v : Value} : ((l.set (i * k + c) v).drop (i * k)).take k = ((l.drop (i * k)).take k).set c v := by
  apply List.ext_getElem?
  intro q
  rw [List.getElem?_take, List.getElem?_set, List.getElem?_drop, List.getElem?_set, List.length_take, List.length_drop, List.getElem?_take, List.getElem?_drop]
  by_cases hq : q < k
  · simp only [hq, if_true]
    by_cases e : c = q
    · subst e
      simp only [if_true]
      by_cases h : i * k + c < l.length
      · rw [if_pos h, if_pos (by omega)]
      · rw [if_neg h, if_neg (by omega)]
    · rw [if_neg (by omega), if_neg e]
  · simp only [hq, if_false]
    by_cases e : c = q
    · subst e; rw [if_pos rfl, if_neg (by omega)]
    · rw [if_neg e]
theorem part_get {l : List Value} {k i c : Nat} {p : List Value} {v : Value} (h : (l.drop (i * k)).take k = p) (hv : p[c]? = some v) : l[i * k + c]? = some v := by
  rw [← h, List.getElem?_take] at hv
  split at hv
  · rwa [List.getElem?_drop] at hv
  · cases hv
section
variable {P : Program} {e : Env} {w : World} {K : Value → World → Prop} {ty : TypeId}
/-- One cell of a slice of the own is written, whatever an element's size. -/
theorem OpW.storeOwnK {t E k n cap q : Nat} {x y : Operand} {A : Option Addr} {xs : List Value} {Z : Nat → Prop} {v : Value} [ht : SizeT P t 1] (hx : ev e x = .pointer (at_ A q)) (hy : ev e y = v) (hv : v.oneCell' = true) (ho : Own w A E k n cap xs Z) (hq : q < n * k)
    (h : ∀ w', Own w' A E k n cap (xs.set q v) Z → Chg (fun b => ∃ a, A = some a ∧ a.block = b) w w' → w'.heap.size = w.heap.size → K undef w') : OpW P (.store t x y) ty e w K := by
  obtain ⟨hl, h2 | ⟨g, cur, h1, h2, h3, h4, h5, h6, h7⟩⟩ := ho
  · rw [h2.2.1] at hq; omega
  · subst h1
    have hnk : n * k ≤ cap * k := Nat.mul_le_mul_right _ h4
    have hcur : q < cur.size := by omega
    refine OpW.store (b := g) (o := q) (c := cur) (E := E) (v := v) (by rw [hx]; simp [at_]) hy hv h3 (by unfold Nat.blt; exact Nat.ble_eq_true_of_le hcur) rfl ?_
    intro w' hp hb
    refine h w' ⟨by simpa using hl, Or.inr ⟨g, _, rfl, h2, hb, h4, h5, by simpa using h6, ?_⟩⟩ (hp.chg.mono fun k _ hk => ⟨_, rfl, hk.symm⟩) hp.size
    rw [← h7]
    have : ∀ (l : List Value) (n i : Nat), (l.set i v).take n = (l.take n).set i v := by
      intro l
      induction l with
      | nil => intro n i; simp
      | cons u l ih => intro n i; cases n <;> cases i <;> simp [ih]
    simp [this]
end
end B
end Go.Proofs.Ytlofcomnhecgfaa
/- Regions whose order is drawn and whose last write (number s) stands behind all reads: up to it only blocks of S are written, behind it blocks of S1. No conditions. -/
namespace Go.Proofs.Ytlofcomnhecgfaa
namespace B
set_option linter.unusedVariables false
set_option linter.unusedSimpArgs false

section
variable {P : Program} {ops : Array Oper} {Q : Exit → Act → World → Prop} {S0 S1 : World → Prop} {s : Nat}
def bindsOn (ops : Array Oper) (s i : Nat) : Bool := match ops[s]? with
  | some o => o.after.any fun e => Region.binds .any e && Nat.beq e.on i
  | none => true
theorem beq_ne {i s : Nat} (h : Nat.beq i s = false) : i ≠ s := fun e => by rw [e, Nat.beq_refl] at h; cases h
theorem bindsOn_spec {i : Nat} (h : bindsOn ops s i = true) : ∀ os, ops[s]? = some os → ∃ e ∈ os.after, Region.binds .any e = true ∧ e.on = i := by
  intro os hos
  unfold bindsOn at h
  rw [hos] at h
  obtain ⟨e, he, hb⟩ := Array.any_eq_true'.1 h
  rw [Bool.and_eq_true] at hb
  exact ⟨e, he, hb.1, Nat.eq_of_beq_eq_true hb.2⟩
/-- Any order; S0 holds up to number s, S1 behind it. -/
def wpP (P : Program) (ops : Array Oper) (Q : Exit → Act → World → Prop) (S0 S1 : World → Prop) (s : Nat) : Nat → Array Bool → Act → World → Prop
  | 0, L, a, w => Region.ready .any ops L = [] ∧ Q .normal a w
  | n + 1, L, a, w => (Region.ready .any ops L = [] → Q .normal a w) ∧
    ∀ i ∈ Region.ready .any ops L, wpOp P ops Q i (fun a' w' => (i = s → S1 w' ∧ wpAnyH P .any ops Q S1 n (L.setIfInBounds i true) a' w') ∧ (i ≠ s → S0 w' ∧ wpP P ops Q S0 S1 s n (L.setIfInBounds i true) a' w')) a w
theorem wpP_any : ∀ (n : Nat) (L : Array Bool) (a : Act) (w : World), wpP P ops Q S0 S1 s n L a w → wpAny P .any ops Q n L a w
  | 0, _, _, _, h => h
  | n + 1, _, _, _, h => ⟨h.1, fun i hi => wpOp_mono (fun a' w' h' => by
      by_cases hs : i = s
      · exact wpAny_of_held n _ a' w' (h'.1 hs).2
      · exact wpP_any n _ a' w' (h'.2 hs).2) (h.2 i hi)⟩
theorem wpP_first {i : Nat} {oi : Oper} {v : Value} (hi : ops[i]? = some oi) (hsel : ∀ (j : Nat) (o : Oper) cs b, ops[j]? = some o → o.op ≠ .select cs b)
    (hQ : ∀ c a w, Q (.panic c) (a.put oi.dst v) w → Q (.panic c) a w) (his : i ≠ s) (h01 : ∀ w, S0 w → S1 w) :
    ∀ (n : Nat) (L : Array Bool) (a : Act) (w : World),
      (∀ j oj, ops[j]? = some oj → j ≠ i → L.getD j true = false → (∀ e ∈ oj.after, Region.binds .any e = true → e.on ≠ i) → oi.apart ops oj = true) →
      i ∈ Region.ready .any ops L → YieldsIf P ops (fun w => if bindsOn ops s i = true then S0 w else S1 w) oi v a → S0 w →
      wpP P ops Q S0 S1 s n (L.setIfInBounds i true) (a.put oi.dst v) w → wpP P ops Q S0 S1 s (n + 1) L a w := by
  have byS : ∀ {w}, S0 w → if bindsOn ops s i = true then S0 w else S1 w := fun {w} h => by
    split
    · exact h
    · exact h01 w h
  intro n
  induction n with
  | zero =>
    intro L a w _ hr hy hS H
    refine ⟨fun h => (by rw [h] at hr; cases hr), fun j hj => ?_⟩
    by_cases hji : j = i
    · subst hji; exact hy.wpOp hi (byS hS) ⟨fun h => absurd h his, fun _ => ⟨hS, H⟩⟩
    · have := ready_mono hj hji
      rw [H.1] at this
      cases this
  | succ n ih =>
    intro L a w hfree hr hy hS H
    refine ⟨fun h => (by rw [h] at hr; cases hr), fun j hj => ?_⟩
    by_cases hji : j = i
    · subst hji; exact hy.wpOp hi (byS hS) ⟨fun h => absurd h his, fun _ => ⟨hS, H⟩⟩
    · have h1 := H.2 j (ready_mono hj hji)
      obtain ⟨hjun, oj, hoj, hall⟩ := mem_ready.1 hj
      have hnot : ∀ e ∈ oj.after, Region.binds .any e = true → e.on ≠ i := fun e he hb heq => by
        have h1 := hall e he hb
        have h0 := (mem_ready.1 hr).1
        rw [heq] at h1
        rcases Nat.lt_or_ge i L.size with h' | h'
        · simp [h'] at h0 h1; rw [h0] at h1; cases h1
        · simp [Array.getElem?_eq_none h'] at h1
      have h2 := wpOp_putIf hoj (hfree j oj hoj hji hjun hnot) (fun cs b => hsel i oi cs b hi) (fun cs b => hsel j oj cs b hoj) hQ hy h1
      have hfree' : ∀ k ok, ops[k]? = some ok → k ≠ i → (L.setIfInBounds j true).getD k true = false →
          (∀ e ∈ ok.after, Region.binds .any e = true → e.on ≠ i) → oi.apart ops ok = true := fun k ok hk hki hun hno => by
        refine hfree k ok hk hki ?_ hno
        by_cases hjk : j = k
        · subst hjk; exact hjun
        · rw [getD_set_ne true hjk] at hun; exact hun
      refine wpOp_mono (fun a' w' h3 => ⟨fun h => ?_, fun hjs => ?_⟩) h2
      · subst h
        obtain ⟨h4, h5⟩ := h3.2.1 rfl
        have hb : ¬ bindsOn ops j i = true := fun hb => by
          obtain ⟨e, he, hb, hon⟩ := bindsOn_spec hb _ hoj
          exact hnot e he hb hon
        refine ⟨h4, ?_⟩
        have hy' := h3.1
        simp only [hb, if_false] at hy'
        refine wpAnyH_first hi hsel hQ n (L.setIfInBounds j true) a' w' hfree' (ready_mono hr (Ne.symm hji)) hy' h4 ?_
        rw [Array.setIfInBounds_comm _ _ hji]
        exact h5
      · obtain ⟨h4, h5⟩ := h3.2.2 hjs
        refine ⟨h4, ih (L.setIfInBounds j true) a' w' hfree' (ready_mono hr (Ne.symm hji)) h3.1 h4 ?_⟩
        rw [Array.setIfInBounds_comm _ _ hji]
        exact h5

def trOk2 (ops : Array Oper) (s : Nat) : Nat → Tr → Array Bool → Bool
  | k + 1, .take i t, d => Region.free .any ops d i && (Region.ready .any ops d).contains i && !(Nat.beq i s) && trOk2 ops s k t (d.setIfInBounds i true)
  | k + 1, .one i t, d => (match Region.ready .any ops d with | [j] => Nat.beq i j | _ => false) && (match Nat.beq i s with | true => trOk ops k t (d.setIfInBounds i true) | false => trOk2 ops s k t (d.setIfInBounds i true))
  | k + 1, .two i t j u, d => (match Region.ready .any ops d with | [i', j'] => Nat.beq i i' && Nat.beq j j' | _ => false) && !(Nat.beq i s) && !(Nat.beq j s) && trOk2 ops s k t (d.setIfInBounds i true) && trOk2 ops s k u (d.setIfInBounds j true)
  | _, _, _ => false
def AHeld2 (P : Program) (ops : Array Oper) (Q : Exit → Act → World → Prop) (C0 C1 : World → Prop) (s : Nat) : Tr → Act → World → Prop
  | .nil, a, w => False
  | .take i t, a, w => ∃ o v, ops[i]? = some o ∧ YieldsIf P ops (fun w => if bindsOn ops s i = true then C0 w else C1 w) o v a ∧ AHeld2 P ops Q C0 C1 s t (a.put o.dst v) w
  | .one i t, a, w => wpOp P ops Q i (fun a' w' => (i = s → C1 w' ∧ AHeld P ops Q C1 t a' w') ∧ (i ≠ s → C0 w' ∧ AHeld2 P ops Q C0 C1 s t a' w')) a w
  | .two i t j u, a, w => wpOp P ops Q i (fun a' w' => C0 w' ∧ AHeld2 P ops Q C0 C1 s t a' w') a w ∧ wpOp P ops Q j (fun a' w' => C0 w' ∧ AHeld2 P ops Q C0 C1 s u a' w') a w
theorem AHeld2.any (hs : Region.noSelect ops = true) (h01 : ∀ w, S0 w → S1 w) (hQ : ∀ c a w, ¬ Q (.panic c) a w) :
    ∀ (t : Tr) (k : Nat) (d : Array Bool) (a : Act) (w : World), trOk2 ops s k t d = true → S0 w → AHeld2 P ops Q S0 S1 s t a w → wpP P ops Q S0 S1 s k d a w := by
  intro t
  induction t with
  | nil => intro k d a w hk; cases k <;> exact Bool.noConfusion hk
  | take i t ih =>
    intro k d a w hk hC h
    cases k with
    | zero => exact Bool.noConfusion hk
    | succ k =>
      rw [trOk2, Bool.and_eq_true, Bool.and_eq_true, Bool.and_eq_true] at hk
      obtain ⟨⟨⟨h1, h2⟩, h4⟩, h5⟩ := hk
      obtain ⟨o, v, ho, hy, h⟩ := h
      exact wpP_first ho (Region.noSelect_spec hs) (fun c a w h => (hQ _ _ _ h).elim) (beq_ne (by simpa using h4)) h01 k d a w (Region.free_spec ho h1) (by simpa using h2) hy hC (ih k _ _ _ h5 hC h)
  | one i t ih =>
    intro k d a w hk hC h
    cases k with
    | zero => exact Bool.noConfusion hk
    | succ k =>
      rw [trOk2, Bool.and_eq_true] at hk
      have hr : Region.ready .any ops d = [i] := by
        have := hk.1
        split at this
        · rename_i j hj; rw [hj, Nat.eq_of_beq_eq_true this]
        · cases this
      refine ⟨fun h0 => (by rw [hr] at h0; cases h0), fun j hj => ?_⟩
      rw [hr] at hj
      obtain rfl : j = i := by simpa using hj
      have hk2 := hk.2
      refine wpOp_mono (fun a' w' h' => ⟨fun e => ?_, fun e => ?_⟩) h
      · rw [show Nat.beq j s = true from by rw [e, Nat.beq_refl]] at hk2
        exact ⟨(h'.1 e).1, AHeld.any hs hQ t k _ _ _ hk2 (h'.1 e).1 (h'.1 e).2⟩
      · rw [show Nat.beq j s = false from by cases hb : Nat.beq j s with | true => exact absurd (Nat.eq_of_beq_eq_true hb) e | false => rfl] at hk2
        exact ⟨(h'.2 e).1, ih k _ _ _ hk2 (h'.2 e).1 (h'.2 e).2⟩
  | two i t j u iht ihu =>
    intro k d a w hk hC h
    cases k with
    | zero => exact Bool.noConfusion hk
    | succ k =>
      rw [trOk2, Bool.and_eq_true, Bool.and_eq_true, Bool.and_eq_true, Bool.and_eq_true] at hk
      obtain ⟨⟨⟨⟨h1, h2⟩, h3⟩, h4⟩, h5⟩ := hk
      have hr : Region.ready .any ops d = [i, j] := by
        split at h1
        · rename_i i' j' hj
          rw [Bool.and_eq_true] at h1
          rw [hj, Nat.eq_of_beq_eq_true h1.1, Nat.eq_of_beq_eq_true h1.2]
        · cases h1
      refine ⟨fun h0 => (by rw [hr] at h0; cases h0), fun m hm => ?_⟩
      rw [hr] at hm
      rcases (by simpa using hm : m = i ∨ m = j) with rfl | rfl
      · exact wpOp_mono (fun a' w' h' => ⟨fun e => absurd e (beq_ne (by simpa using h2)), fun _ => ⟨h'.1, iht k _ _ _ h4 h'.1 h'.2⟩⟩) h.1
      · exact wpOp_mono (fun a' w' h' => ⟨fun e => absurd e (beq_ne (by simpa using h3)), fun _ => ⟨h'.1, ihu k _ _ _ h5 h'.1 h'.2⟩⟩) h.2
end

section
variable {P : Program} {N : Nat} {Q : Post} {e : Env} {w w0 : World} {ops : Array Oper} {ty : TypeId} {S S1 : Nat → Prop} {s : Nat} {K' : Value → World → Prop}
/-- The walk up to the last write. -/
def AL2 (P : Program) (N : Nat) (ops : Array Oper) (w0 : World) (S S1 : Nat → Prop) (s : Nat) (Q : Post) (t : Tr) (e : Env) (w : World) : Prop :=
  (∀ b, S b → S1 b) → Chg S w0 w → ∀ a, Rep N a e → AHeld2 P ops (calm (lift N Q)) (fun w' => Chg S w0 w') (fun w' => Chg S1 w0 w') s t a w
/-- s: the number of the last write; S: the blocks written up to it, S1: with it. -/
theorem CW.held2 {id : Nat} {l : List Oper} (s : Nat) (S S1 : Nat → Prop) (t : Tr) (hSS : ∀ b, S b → S1 b) (hm : P.follows .mixedOrders = true) (hs : Region.noSelect l.toArray = true)
    (hok : trOk2 l.toArray s l.toArray.size t (Array.replicate l.toArray.size false) = true) (h : ∀ w1, Grow w w1 → AL2 P N l.toArray w S S1 s Q t e w1) : CW P N (.region id l.toArray true) Q e w := by
  intro a ha
  refine Code.wp_mono (Q := calm (lift N Q)) ?_ (wp_region_any hm (wpP_any (S0 := fun w' => Chg S w w') (S1 := fun w' => Chg S1 w w') (s := s) _ _ _ _ ?_))
  · intro x a w h
    cases x with
    | panic c => exact h.elim
    | normal => exact h
    | exit id => exact h
    | goto l => exact h
    | ret => exact h
    | outgrown => exact h
  · exact AHeld2.any hs (fun w h => h.mono fun k _ hk => hSS k hk) (fun c a w h => h) t _ _ _ _ hok (Chg.drew (Chg.refl _ _)) (h _ (Chg.drew (Chg.refl _ _)) hSS (Chg.drew (Chg.refl _ _)) a ha)
theorem AL2.take {i d : Nat} {op : Op} {v : Value} {pos : String} {after : Array Edge} {t : Tr} (hbo : bindsOn ops s i = true) (hi : ops[i]? = some ⟨some d, op, ty, pos, after, none⟩) (hd : Nat.blt d N = true) (hv : valOp op = true)
    (h : ∀ w, Chg S w0 w → OpW P op ty e w fun v' w' => v' = v ∧ w' = w) (hn : AL2 P N ops w0 S S1 s Q t (upd e d v) w) : AL2 P N ops w0 S S1 s Q (.take i t) e w :=
  fun hss hc a ha => ⟨_, v, hi, yields_of ha.eval hv rfl fun w hw => h w (by rw [if_pos hbo] at hw; exact hw), hn hss hc _ (ha.put (blt_lt hd) v)⟩
theorem AL2.takeU {i d : Nat} {op : Op} {v : Value} {pos : String} {after : Array Edge} {t : Tr} (hi : ops[i]? = some ⟨some d, op, ty, pos, after, none⟩) (hd : Nat.blt d N = true) (hv : valOp op = true)
    (h : ∀ w, Chg S1 w0 w → OpW P op ty e w fun v' w' => v' = v ∧ w' = w) (hn : AL2 P N ops w0 S S1 s Q t (upd e d v) w) : AL2 P N ops w0 S S1 s Q (.take i t) e w :=
  fun hss hc a ha => ⟨_, v, hi, yields_of ha.eval hv rfl fun w hw => h w (by split at hw; exact hw.mono fun k _ hk => hss k hk; exact hw), hn hss hc _ (ha.put (blt_lt hd) v)⟩
theorem AL2.gtake {i d j dj : Nat} {want : Bool} {op : Op} {v : Value} {pos : String} {after : Array Edge} {t : Tr} (hbo : bindsOn ops s i = true) (hi : ops[i]? = some ⟨some d, op, ty, pos, after, some (j, want)⟩) (hj : (ops[j]?).bind (·.dst) = some dj) (hn' : Nat.blt dj N = true) (hd : Nat.blt d N = true) (hb : e dj = .bool want) (hv : valOp op = true)
    (h : ∀ w, Chg S w0 w → OpW P op ty e w fun v' w' => v' = v ∧ w' = w) (hn : AL2 P N ops w0 S S1 s Q t (upd e d v) w) : AL2 P N ops w0 S S1 s Q (.take i t) e w :=
  fun hss hc a ha => ⟨_, v, hi, yields_of ha.eval hv (by rw [wanted_of (N := N) (e := e) ha rfl hj hn' hb]; simp) fun w hw => h w (by rw [if_pos hbo] at hw; exact hw), hn hss hc _ (ha.put (blt_lt hd) v)⟩
theorem AL2.gtakeU {i d j dj : Nat} {want : Bool} {op : Op} {v : Value} {pos : String} {after : Array Edge} {t : Tr} (hi : ops[i]? = some ⟨some d, op, ty, pos, after, some (j, want)⟩) (hj : (ops[j]?).bind (·.dst) = some dj) (hn' : Nat.blt dj N = true) (hd : Nat.blt d N = true) (hb : e dj = .bool want) (hv : valOp op = true)
    (h : ∀ w, Chg S1 w0 w → OpW P op ty e w fun v' w' => v' = v ∧ w' = w) (hn : AL2 P N ops w0 S S1 s Q t (upd e d v) w) : AL2 P N ops w0 S S1 s Q (.take i t) e w :=
  fun hss hc a ha => ⟨_, v, hi, yields_of ha.eval hv (by rw [wanted_of (N := N) (e := e) ha rfl hj hn' hb]; simp) fun w hw => h w (by split at hw; exact hw.mono fun k _ hk => hss k hk; exact hw), hn hss hc _ (ha.put (blt_lt hd) v)⟩
theorem AL2.gskip {i d j dj : Nat} {want : Bool} {op : Op} {pos : String} {after : Array Edge} {t : Tr} (hi : ops[i]? = some ⟨some d, op, ty, pos, after, some (j, want)⟩) (hj : (ops[j]?).bind (·.dst) = some dj) (hn' : Nat.blt dj N = true) (hd : Nat.blt d N = true) (hb : e dj = .bool (!want))
    (hn : AL2 P N ops w0 S S1 s Q t (upd e d undef) w) : AL2 P N ops w0 S S1 s Q (.take i t) e w :=
  fun hss hc a ha => ⟨_, undef, hi, Or.inr ⟨by rw [wanted_of (N := N) (e := e) ha rfl hj hn' hb]; cases want <;> rfl, rfl⟩, hn hss hc _ (ha.put (blt_lt hd) undef)⟩

theorem AL2.one {i d : Nat} {op : Op} {pos : String} {after : Array Edge} {t : Tr} (his : Nat.beq i s = false) (hi : ops[i]? = some ⟨some d, op, ty, pos, after, none⟩) (hd : Nat.blt d N = true)
    (h : OpW P op ty e w fun v w' => (Chg S w0 w → Chg S w0 w') ∧ AL2 P N ops w0 S S1 s Q t (upd e d v) w') : AL2 P N ops w0 S S1 s Q (.one i t) e w := by
  intro hss hc a ha
  show wpOp P ops _ i _ a w
  unfold wpOp
  simp only [hi]
  rw [if_pos (c := Region.wanted _ (yielded ops a.tmps) = true) rfl]
  exact Or.inl (OpW.toWp ha.eval (h.mono fun v w' ⟨h1, h2⟩ => ⟨fun e => absurd e (beq_ne his), fun _ => ⟨h1 hc, h2 hss (h1 hc) _ (ha.put (blt_lt hd) v)⟩⟩))
theorem AL2.one0 {i : Nat} {op : Op} {pos : String} {after : Array Edge} {t : Tr} (his : Nat.beq i s = false) (hi : ops[i]? = some ⟨none, op, ty, pos, after, none⟩)
    (h : OpW P op ty e w fun v w' => (Chg S w0 w → Chg S w0 w') ∧ AL2 P N ops w0 S S1 s Q t e w') : AL2 P N ops w0 S S1 s Q (.one i t) e w := by
  intro hss hc a ha
  show wpOp P ops _ i _ a w
  unfold wpOp
  simp only [hi]
  rw [if_pos (c := Region.wanted _ (yielded ops a.tmps) = true) rfl]
  exact Or.inl (OpW.toWp (o := ⟨none, op, ty, pos, after, none⟩) ha.eval (h.mono fun v w' ⟨h1, h2⟩ => ⟨fun e => absurd e (beq_ne his), fun _ => ⟨h1 hc, h2 hss (h1 hc) _ ha⟩⟩))
theorem AL2.gone {i d j dj : Nat} {want : Bool} {op : Op} {pos : String} {after : Array Edge} {t : Tr} (his : Nat.beq i s = false) (hi : ops[i]? = some ⟨some d, op, ty, pos, after, some (j, want)⟩) (hj : (ops[j]?).bind (·.dst) = some dj) (hn' : Nat.blt dj N = true) (hd : Nat.blt d N = true) (hb : e dj = .bool want)
    (h : OpW P op ty e w fun v w' => (Chg S w0 w → Chg S w0 w') ∧ AL2 P N ops w0 S S1 s Q t (upd e d v) w') : AL2 P N ops w0 S S1 s Q (.one i t) e w := by
  intro hss hc a ha
  show wpOp P ops _ i _ a w
  unfold wpOp
  simp only [hi]
  rw [if_pos (by rw [wanted_of (N := N) (e := e) ha rfl hj hn' hb]; simp)]
  exact Or.inl (OpW.toWp ha.eval (h.mono fun v w' ⟨h1, h2⟩ => ⟨fun e => absurd e (beq_ne his), fun _ => ⟨h1 hc, h2 hss (h1 hc) _ (ha.put (blt_lt hd) v)⟩⟩))
theorem AL2.goneSkip {i d j dj : Nat} {want : Bool} {op : Op} {pos : String} {after : Array Edge} {t : Tr} (his : Nat.beq i s = false) (hi : ops[i]? = some ⟨some d, op, ty, pos, after, some (j, want)⟩) (hj : (ops[j]?).bind (·.dst) = some dj) (hn' : Nat.blt dj N = true) (hd : Nat.blt d N = true) (hb : e dj = .bool (!want))
    (hn : AL2 P N ops w0 S S1 s Q t (upd e d undef) w) : AL2 P N ops w0 S S1 s Q (.one i t) e w := by
  intro hss hc a ha
  show wpOp P ops _ i _ a w
  unfold wpOp
  simp only [hi]
  rw [if_neg (by rw [wanted_of (N := N) (e := e) ha rfl hj hn' hb]; cases want <;> simp)]
  exact ⟨fun e => absurd e (beq_ne his), fun _ => ⟨hc, hn hss hc _ (ha.put (blt_lt hd) undef)⟩⟩
/-- The last write. -/
theorem AL2.last0 {i : Nat} {op : Op} {pos : String} {after : Array Edge} {t : Tr} (his : Nat.beq i s = true) (hi : ops[i]? = some ⟨none, op, ty, pos, after, none⟩)
    (h : OpW P op ty e w fun v w' => (Chg S w0 w → Chg S1 w0 w') ∧ AL P N ops w0 S1 Q t e w') : AL2 P N ops w0 S S1 s Q (.one i t) e w := by
  intro hss hc a ha
  show wpOp P ops _ i _ a w
  unfold wpOp
  simp only [hi]
  rw [if_pos (c := Region.wanted _ (yielded ops a.tmps) = true) rfl]
  exact Or.inl (OpW.toWp (o := ⟨none, op, ty, pos, after, none⟩) ha.eval (h.mono fun v w' ⟨h1, h2⟩ => ⟨fun _ => ⟨h1 hc, h2 (h1 hc) _ ha⟩, fun e => absurd (Nat.eq_of_beq_eq_true his) e⟩))
theorem AL2.last {i d : Nat} {op : Op} {pos : String} {after : Array Edge} {t : Tr} (his : Nat.beq i s = true) (hi : ops[i]? = some ⟨some d, op, ty, pos, after, none⟩) (hd : Nat.blt d N = true)
    (h : OpW P op ty e w fun v w' => (Chg S w0 w → Chg S1 w0 w') ∧ AL P N ops w0 S1 Q t (upd e d v) w') : AL2 P N ops w0 S S1 s Q (.one i t) e w := by
  intro hss hc a ha
  show wpOp P ops _ i _ a w
  unfold wpOp
  simp only [hi]
  rw [if_pos (c := Region.wanted _ (yielded ops a.tmps) = true) rfl]
  exact Or.inl (OpW.toWp ha.eval (h.mono fun v w' ⟨h1, h2⟩ => ⟨fun _ => ⟨h1 hc, h2 (h1 hc) _ (ha.put (blt_lt hd) v)⟩, fun e => absurd (Nat.eq_of_beq_eq_true his) e⟩))
theorem AL2.two {i j : Nat} {t u : Tr} (his : Nat.beq i s = false) (hjs : Nat.beq j s = false) (h1 : AL2 P N ops w0 S S1 s Q (.one i t) e w) (h2 : AL2 P N ops w0 S S1 s Q (.one j u) e w) : AL2 P N ops w0 S S1 s Q (.two i t j u) e w :=
  fun hss hc a ha => ⟨wpOp_mono (fun a' w' h => h.2 (beq_ne his)) (h1 hss hc a ha), wpOp_mono (fun a' w' h => h.2 (beq_ne hjs)) (h2 hss hc a ha)⟩
theorem AL2.gskipU {i d j dj : Nat} {want : Bool} {op : Op} {pos : String} {after : Array Edge} {t : Tr} (hi : ops[i]? = some ⟨some d, op, ty, pos, after, some (j, want)⟩) (hj : (ops[j]?).bind (·.dst) = some dj) (hn' : Nat.blt dj N = true) (hd : Nat.blt d N = true) (hb : e dj = undef)
    (hn : AL2 P N ops w0 S S1 s Q t (upd e d undef) w) : AL2 P N ops w0 S S1 s Q (.take i t) e w :=
  fun hss hc a ha => ⟨_, undef, hi, Or.inr ⟨wanted_undef (N := N) (e := e) ha rfl hj hn' hb, rfl⟩, hn hss hc _ (ha.put (blt_lt hd) undef)⟩
theorem AL2.goneSkipU {i d j dj : Nat} {want : Bool} {op : Op} {pos : String} {after : Array Edge} {t : Tr} (his : Nat.beq i s = false) (hi : ops[i]? = some ⟨some d, op, ty, pos, after, some (j, want)⟩) (hj : (ops[j]?).bind (·.dst) = some dj) (hn' : Nat.blt dj N = true) (hd : Nat.blt d N = true) (hb : e dj = undef)
    (hn : AL2 P N ops w0 S S1 s Q t (upd e d undef) w) : AL2 P N ops w0 S S1 s Q (.one i t) e w := by
  intro hss hc a ha
  show wpOp P ops _ i _ a w
  unfold wpOp
  simp only [hi]
  rw [if_neg (by rw [wanted_undef (N := N) (e := e) ha rfl hj hn' hb]; simp)]
  exact ⟨fun e => absurd e (beq_ne his), fun _ => ⟨hc, hn hss hc _ (ha.put (blt_lt hd) undef)⟩⟩

attribute [local irreducible] OpW WL CW Ret Sl Blk thn blk outOf
theorem AL2.auto {i d : Nat} {op : Op} {v : Value} {pos : String} {after : Array Edge} {t : Tr} (hbo : bindsOn ops s i = true := by kernel_rfl) (hi : ops[i]? = some ⟨some d, op, ty, pos, after, none⟩ := by rfl) (hd : Nat.blt d N = true := by rfl) (hv : valOp op = true := by rfl)
    (ho : ∀ w, Chg S w0 w → OpV P op ty e w v := by
      intro w hg K hK
      (first
 | (show OpW _ (.move _) _ _ _ _; first | exact OpW.move (v := .int _ _) rfl hK | exact OpW.move (v := .bool _) rfl hK | exact OpW.move (v := .slice _ _ _) rfl hK | exact OpW.move (v := .pointer _) rfl hK | exact OpW.move (v := .string _) rfl hK | exact OpW.move (v := .agg _) rfl hK | exact OpW.move (v := .tuple _) rfl hK | exact OpW.move (v := .func _ _ _) rfl hK)
 | (show OpW _ (.assign _) _ _ _ _; first | exact OpW.assign (v := .int _ _) rfl hK | exact OpW.assign (v := .bool _) rfl hK | exact OpW.assign (v := .slice _ _ _) rfl hK | exact OpW.assign (v := .pointer _) rfl hK | exact OpW.assign (v := .string _) rfl hK | exact OpW.assign (v := .agg _) rfl hK | exact OpW.assign (v := .tuple _) rfl hK | exact OpW.assign (v := .func _ _ _) rfl hK)
 | (show OpW _ (.nilCheck _) _ _ _ _; first | exact OpW.nilCheck rfl hK)
 | (show OpW _ (.fieldAddr _ _ _) _ _ _ _; first | exact OpW.fieldAddr rfl hK | exact OpW.fieldAddrS rfl (by assumption) hK)
 | (show OpW _ (.load _ _) _ _ _ _; first | exact OpW.load (v := .int _ _) rfl (Blk.grow (by assumption) hg) rfl hK | exact OpW.load (v := .slice _ _ _) rfl (Blk.grow (by assumption) hg) rfl hK | exact OpW.load (v := .bool _) rfl (Blk.grow (by assumption) hg) rfl hK | exact OpW.load (v := .pointer _) rfl (Blk.grow (by assumption) hg) rfl hK | exact OpW.load (v := .string _) rfl (Blk.grow (by assumption) hg) rfl hK | exact OpW.loadS rfl (Sl.grow (by assumption) hg) (by first | assumption | rfl) hK | exact OpW.load rfl (Blk.keep (by assumption) hg (by assumption)) rfl hK | exact OpW.loadS rfl (Sl.keep (by assumption) hg (by assumption)) (by first | assumption | rfl) hK)
 | (show OpW _ (.binOp .lss _ _ _ _) _ _ _ _; first | exact OpW.lss rfl rfl hK | exact OpW.lssStr rfl rfl hK)
 | (show OpW _ (.binOp .leq _ _ _ _) _ _ _ _; first | exact OpW.leq rfl rfl hK)
 | (show OpW _ (.binOp .gtr _ _ _ _) _ _ _ _; first | exact OpW.gtr rfl rfl hK)
 | (show OpW _ (.binOp .geq _ _ _ _) _ _ _ _; first | exact OpW.geq rfl rfl hK)
 | (show OpW _ (.binOp .eql _ _ _ _) _ _ _ _; first | exact OpW.eqlI rfl rfl hK | exact OpW.eqlP rfl rfl hK | exact OpW.eqlS rfl rfl hK | exact OpW.eqlStr rfl rfl hK | exact OpW.eqlB rfl rfl hK)
 | (show OpW _ (.binOp .neq _ _ _ _) _ _ _ _; first | exact OpW.neqI rfl rfl hK | exact OpW.neqP rfl rfl hK | exact OpW.neqStr rfl rfl hK | exact OpW.neqB rfl rfl hK)
 | (show OpW _ (.binOp .add _ _ _ _) _ _ _ _; first | exact OpW.addI _ rfl rfl ⟨rfl, by omega, by omega⟩ hK | exact OpW.addU _ rfl rfl ⟨rfl, by omega, by omega⟩ hK | exact OpW.addS rfl rfl (by omega) hK)
 | (show OpW _ (.binOp .sub _ _ _ _) _ _ _ _; first | exact OpW.subI _ rfl rfl ⟨rfl, by omega, by omega⟩ hK)
 | (show OpW _ (.binOp .mul _ _ _ _) _ _ _ _; first | exact OpW.mulI _ rfl rfl ⟨rfl, by omega, by omega⟩ hK)
 | (show OpW _ (.convert _ _ _) _ _ _ _; first | exact OpW.convByte rfl hK | exact OpW.convU64 rfl ⟨by omega, by omega⟩ hK | exact OpW.convI64 rfl ⟨by omega, by omega⟩ hK)
 | (show OpW _ (.call ⟨.builtin .len, _, _⟩) _ _ _ _; first | exact OpW.len rfl hK | exact OpW.lenStr rfl hK)
 | (show OpW _ (.call ⟨.builtin .cap, _, _⟩) _ _ _ _; first | exact OpW.cap rfl hK)
 | (show OpW _ (.call ⟨.builtin .min, _, _⟩) _ _ _ _; first | exact OpW.min rfl rfl hK)
 | (show OpW _ (.call ⟨.builtin .max, _, _⟩) _ _ _ _; first | exact OpW.max rfl rfl hK)
 | (show OpW _ (.unOp .not _ _) _ _ _ _; first | exact OpW.notP rfl hK | exact OpW.not rfl hK)
 | (show OpW _ (.extract _ _) _ _ _ _; first | exact OpW.extract (v := .int _ _) rfl rfl hK | exact OpW.extract (v := .bool _) rfl rfl hK | exact OpW.extract (v := .slice _ _ _) rfl rfl hK | exact OpW.extract (v := .pointer _) rfl rfl hK | exact OpW.extract (v := .string _) rfl rfl hK | exact OpW.extract (v := .agg _) rfl rfl hK | exact OpW.extract (v := .tuple _) rfl rfl hK | exact OpW.extract (v := .func _ _ _) rfl rfl hK)
 | (show OpW _ (.pick _ _ _) _ _ _ _; first | exact OpW.pickT (v := .bool _) rfl rfl hK | exact OpW.pickF (v := .bool _) rfl rfl hK)))
    (hn : AL2 P N ops w0 S S1 s Q t (upd e d v) w) : AL2 P N ops w0 S S1 s Q (.take i t) e w :=
  AL2.take hbo hi hd hv (fun w hg => ho w hg _ ⟨rfl, rfl⟩) hn
theorem AL2.gauto {i d j dj : Nat} {want : Bool} {op : Op} {v : Value} {pos : String} {after : Array Edge} {t : Tr} (hbo : bindsOn ops s i = true := by kernel_rfl) (hi : ops[i]? = some ⟨some d, op, ty, pos, after, some (j, want)⟩ := by rfl) (hj : (ops[j]?).bind (·.dst) = some dj := by rfl) (hn' : Nat.blt dj N = true := by rfl) (hd : Nat.blt d N = true := by rfl) (hb : e dj = .bool want := by rfl) (hv : valOp op = true := by rfl)
    (ho : ∀ w, Chg S w0 w → OpV P op ty e w v := by
      intro w hg K hK
      (first
 | (show OpW _ (.move _) _ _ _ _; first | exact OpW.move (v := .int _ _) rfl hK | exact OpW.move (v := .bool _) rfl hK | exact OpW.move (v := .slice _ _ _) rfl hK | exact OpW.move (v := .pointer _) rfl hK | exact OpW.move (v := .string _) rfl hK | exact OpW.move (v := .agg _) rfl hK | exact OpW.move (v := .tuple _) rfl hK | exact OpW.move (v := .func _ _ _) rfl hK)
 | (show OpW _ (.assign _) _ _ _ _; first | exact OpW.assign (v := .int _ _) rfl hK | exact OpW.assign (v := .bool _) rfl hK | exact OpW.assign (v := .slice _ _ _) rfl hK | exact OpW.assign (v := .pointer _) rfl hK | exact OpW.assign (v := .string _) rfl hK | exact OpW.assign (v := .agg _) rfl hK | exact OpW.assign (v := .tuple _) rfl hK | exact OpW.assign (v := .func _ _ _) rfl hK)
 | (show OpW _ (.nilCheck _) _ _ _ _; first | exact OpW.nilCheck rfl hK)
 | (show OpW _ (.fieldAddr _ _ _) _ _ _ _; first | exact OpW.fieldAddr rfl hK | exact OpW.fieldAddrS rfl (by assumption) hK)
 | (show OpW _ (.load _ _) _ _ _ _; first | exact OpW.load (v := .int _ _) rfl (Blk.grow (by assumption) hg) rfl hK | exact OpW.load (v := .slice _ _ _) rfl (Blk.grow (by assumption) hg) rfl hK | exact OpW.load (v := .bool _) rfl (Blk.grow (by assumption) hg) rfl hK | exact OpW.load (v := .pointer _) rfl (Blk.grow (by assumption) hg) rfl hK | exact OpW.load (v := .string _) rfl (Blk.grow (by assumption) hg) rfl hK | exact OpW.loadS rfl (Sl.grow (by assumption) hg) (by first | assumption | rfl) hK | exact OpW.load rfl (Blk.keep (by assumption) hg (by assumption)) rfl hK | exact OpW.loadS rfl (Sl.keep (by assumption) hg (by assumption)) (by first | assumption | rfl) hK)
 | (show OpW _ (.binOp .lss _ _ _ _) _ _ _ _; first | exact OpW.lss rfl rfl hK | exact OpW.lssStr rfl rfl hK)
 | (show OpW _ (.binOp .leq _ _ _ _) _ _ _ _; first | exact OpW.leq rfl rfl hK)
 | (show OpW _ (.binOp .gtr _ _ _ _) _ _ _ _; first | exact OpW.gtr rfl rfl hK)
 | (show OpW _ (.binOp .geq _ _ _ _) _ _ _ _; first | exact OpW.geq rfl rfl hK)
 | (show OpW _ (.binOp .eql _ _ _ _) _ _ _ _; first | exact OpW.eqlI rfl rfl hK | exact OpW.eqlP rfl rfl hK | exact OpW.eqlS rfl rfl hK | exact OpW.eqlStr rfl rfl hK | exact OpW.eqlB rfl rfl hK)
 | (show OpW _ (.binOp .neq _ _ _ _) _ _ _ _; first | exact OpW.neqI rfl rfl hK | exact OpW.neqP rfl rfl hK | exact OpW.neqStr rfl rfl hK | exact OpW.neqB rfl rfl hK)
 | (show OpW _ (.binOp .add _ _ _ _) _ _ _ _; first | exact OpW.addI _ rfl rfl ⟨rfl, by omega, by omega⟩ hK | exact OpW.addU _ rfl rfl ⟨rfl, by omega, by omega⟩ hK | exact OpW.addS rfl rfl (by omega) hK)
 | (show OpW _ (.binOp .sub _ _ _ _) _ _ _ _; first | exact OpW.subI _ rfl rfl ⟨rfl, by omega, by omega⟩ hK)
 | (show OpW _ (.binOp .mul _ _ _ _) _ _ _ _; first | exact OpW.mulI _ rfl rfl ⟨rfl, by omega, by omega⟩ hK)
 | (show OpW _ (.convert _ _ _) _ _ _ _; first | exact OpW.convByte rfl hK | exact OpW.convU64 rfl ⟨by omega, by omega⟩ hK | exact OpW.convI64 rfl ⟨by omega, by omega⟩ hK)
 | (show OpW _ (.call ⟨.builtin .len, _, _⟩) _ _ _ _; first | exact OpW.len rfl hK | exact OpW.lenStr rfl hK)
 | (show OpW _ (.call ⟨.builtin .cap, _, _⟩) _ _ _ _; first | exact OpW.cap rfl hK)
 | (show OpW _ (.call ⟨.builtin .min, _, _⟩) _ _ _ _; first | exact OpW.min rfl rfl hK)
 | (show OpW _ (.call ⟨.builtin .max, _, _⟩) _ _ _ _; first | exact OpW.max rfl rfl hK)
 | (show OpW _ (.unOp .not _ _) _ _ _ _; first | exact OpW.notP rfl hK | exact OpW.not rfl hK)
 | (show OpW _ (.extract _ _) _ _ _ _; first | exact OpW.extract (v := .int _ _) rfl rfl hK | exact OpW.extract (v := .bool _) rfl rfl hK | exact OpW.extract (v := .slice _ _ _) rfl rfl hK | exact OpW.extract (v := .pointer _) rfl rfl hK | exact OpW.extract (v := .string _) rfl rfl hK | exact OpW.extract (v := .agg _) rfl rfl hK | exact OpW.extract (v := .tuple _) rfl rfl hK | exact OpW.extract (v := .func _ _ _) rfl rfl hK)
 | (show OpW _ (.pick _ _ _) _ _ _ _; first | exact OpW.pickT (v := .bool _) rfl rfl hK | exact OpW.pickF (v := .bool _) rfl rfl hK)))
    (hn : AL2 P N ops w0 S S1 s Q t (upd e d v) w) : AL2 P N ops w0 S S1 s Q (.take i t) e w :=
  AL2.gtake hbo hi hj hn' hd hb hv (fun w hg => ho w hg _ ⟨rfl, rfl⟩) hn
theorem AL2.autoU {i d : Nat} {op : Op} {v : Value} {pos : String} {after : Array Edge} {t : Tr} (hi : ops[i]? = some ⟨some d, op, ty, pos, after, none⟩ := by rfl) (hd : Nat.blt d N = true := by rfl) (hv : valOp op = true := by rfl)
    (ho : ∀ w, Chg S1 w0 w → OpV P op ty e w v := by
      intro w hg K hK
      (first
 | (show OpW _ (.move _) _ _ _ _; first | exact OpW.move (v := .int _ _) rfl hK | exact OpW.move (v := .bool _) rfl hK | exact OpW.move (v := .slice _ _ _) rfl hK | exact OpW.move (v := .pointer _) rfl hK | exact OpW.move (v := .string _) rfl hK | exact OpW.move (v := .agg _) rfl hK | exact OpW.move (v := .tuple _) rfl hK | exact OpW.move (v := .func _ _ _) rfl hK)
 | (show OpW _ (.assign _) _ _ _ _; first | exact OpW.assign (v := .int _ _) rfl hK | exact OpW.assign (v := .bool _) rfl hK | exact OpW.assign (v := .slice _ _ _) rfl hK | exact OpW.assign (v := .pointer _) rfl hK | exact OpW.assign (v := .string _) rfl hK | exact OpW.assign (v := .agg _) rfl hK | exact OpW.assign (v := .tuple _) rfl hK | exact OpW.assign (v := .func _ _ _) rfl hK)
 | (show OpW _ (.nilCheck _) _ _ _ _; first | exact OpW.nilCheck rfl hK)
 | (show OpW _ (.fieldAddr _ _ _) _ _ _ _; first | exact OpW.fieldAddr rfl hK | exact OpW.fieldAddrS rfl (by assumption) hK)
 | (show OpW _ (.load _ _) _ _ _ _; first | exact OpW.load (v := .int _ _) rfl (Blk.grow (by assumption) hg) rfl hK | exact OpW.load (v := .slice _ _ _) rfl (Blk.grow (by assumption) hg) rfl hK | exact OpW.load (v := .bool _) rfl (Blk.grow (by assumption) hg) rfl hK | exact OpW.load (v := .pointer _) rfl (Blk.grow (by assumption) hg) rfl hK | exact OpW.load (v := .string _) rfl (Blk.grow (by assumption) hg) rfl hK | exact OpW.loadS rfl (Sl.grow (by assumption) hg) (by first | assumption | rfl) hK | exact OpW.load rfl (Blk.keep (by assumption) hg (by assumption)) rfl hK | exact OpW.loadS rfl (Sl.keep (by assumption) hg (by assumption)) (by first | assumption | rfl) hK)
 | (show OpW _ (.binOp .lss _ _ _ _) _ _ _ _; first | exact OpW.lss rfl rfl hK | exact OpW.lssStr rfl rfl hK)
 | (show OpW _ (.binOp .leq _ _ _ _) _ _ _ _; first | exact OpW.leq rfl rfl hK)
 | (show OpW _ (.binOp .gtr _ _ _ _) _ _ _ _; first | exact OpW.gtr rfl rfl hK)
 | (show OpW _ (.binOp .geq _ _ _ _) _ _ _ _; first | exact OpW.geq rfl rfl hK)
 | (show OpW _ (.binOp .eql _ _ _ _) _ _ _ _; first | exact OpW.eqlI rfl rfl hK | exact OpW.eqlP rfl rfl hK | exact OpW.eqlS rfl rfl hK | exact OpW.eqlStr rfl rfl hK | exact OpW.eqlB rfl rfl hK)
 | (show OpW _ (.binOp .neq _ _ _ _) _ _ _ _; first | exact OpW.neqI rfl rfl hK | exact OpW.neqP rfl rfl hK | exact OpW.neqStr rfl rfl hK | exact OpW.neqB rfl rfl hK)
 | (show OpW _ (.binOp .add _ _ _ _) _ _ _ _; first | exact OpW.addI _ rfl rfl ⟨rfl, by omega, by omega⟩ hK | exact OpW.addU _ rfl rfl ⟨rfl, by omega, by omega⟩ hK | exact OpW.addS rfl rfl (by omega) hK)
 | (show OpW _ (.binOp .sub _ _ _ _) _ _ _ _; first | exact OpW.subI _ rfl rfl ⟨rfl, by omega, by omega⟩ hK)
 | (show OpW _ (.binOp .mul _ _ _ _) _ _ _ _; first | exact OpW.mulI _ rfl rfl ⟨rfl, by omega, by omega⟩ hK)
 | (show OpW _ (.convert _ _ _) _ _ _ _; first | exact OpW.convByte rfl hK | exact OpW.convU64 rfl ⟨by omega, by omega⟩ hK | exact OpW.convI64 rfl ⟨by omega, by omega⟩ hK)
 | (show OpW _ (.call ⟨.builtin .len, _, _⟩) _ _ _ _; first | exact OpW.len rfl hK | exact OpW.lenStr rfl hK)
 | (show OpW _ (.call ⟨.builtin .cap, _, _⟩) _ _ _ _; first | exact OpW.cap rfl hK)
 | (show OpW _ (.call ⟨.builtin .min, _, _⟩) _ _ _ _; first | exact OpW.min rfl rfl hK)
 | (show OpW _ (.call ⟨.builtin .max, _, _⟩) _ _ _ _; first | exact OpW.max rfl rfl hK)
 | (show OpW _ (.unOp .not _ _) _ _ _ _; first | exact OpW.notP rfl hK | exact OpW.not rfl hK)
 | (show OpW _ (.extract _ _) _ _ _ _; first | exact OpW.extract (v := .int _ _) rfl rfl hK | exact OpW.extract (v := .bool _) rfl rfl hK | exact OpW.extract (v := .slice _ _ _) rfl rfl hK | exact OpW.extract (v := .pointer _) rfl rfl hK | exact OpW.extract (v := .string _) rfl rfl hK | exact OpW.extract (v := .agg _) rfl rfl hK | exact OpW.extract (v := .tuple _) rfl rfl hK | exact OpW.extract (v := .func _ _ _) rfl rfl hK)
 | (show OpW _ (.pick _ _ _) _ _ _ _; first | exact OpW.pickT (v := .bool _) rfl rfl hK | exact OpW.pickF (v := .bool _) rfl rfl hK)))
    (hn : AL2 P N ops w0 S S1 s Q t (upd e d v) w) : AL2 P N ops w0 S S1 s Q (.take i t) e w :=
  AL2.takeU hi hd hv (fun w hg => ho w hg _ ⟨rfl, rfl⟩) hn
theorem AL2.gautoU {i d j dj : Nat} {want : Bool} {op : Op} {v : Value} {pos : String} {after : Array Edge} {t : Tr} (hi : ops[i]? = some ⟨some d, op, ty, pos, after, some (j, want)⟩ := by rfl) (hj : (ops[j]?).bind (·.dst) = some dj := by rfl) (hn' : Nat.blt dj N = true := by rfl) (hd : Nat.blt d N = true := by rfl) (hb : e dj = .bool want := by rfl) (hv : valOp op = true := by rfl)
    (ho : ∀ w, Chg S1 w0 w → OpV P op ty e w v := by
      intro w hg K hK
      (first
 | (show OpW _ (.move _) _ _ _ _; first | exact OpW.move (v := .int _ _) rfl hK | exact OpW.move (v := .bool _) rfl hK | exact OpW.move (v := .slice _ _ _) rfl hK | exact OpW.move (v := .pointer _) rfl hK | exact OpW.move (v := .string _) rfl hK | exact OpW.move (v := .agg _) rfl hK | exact OpW.move (v := .tuple _) rfl hK | exact OpW.move (v := .func _ _ _) rfl hK)
 | (show OpW _ (.assign _) _ _ _ _; first | exact OpW.assign (v := .int _ _) rfl hK | exact OpW.assign (v := .bool _) rfl hK | exact OpW.assign (v := .slice _ _ _) rfl hK | exact OpW.assign (v := .pointer _) rfl hK | exact OpW.assign (v := .string _) rfl hK | exact OpW.assign (v := .agg _) rfl hK | exact OpW.assign (v := .tuple _) rfl hK | exact OpW.assign (v := .func _ _ _) rfl hK)
 | (show OpW _ (.nilCheck _) _ _ _ _; first | exact OpW.nilCheck rfl hK)
 | (show OpW _ (.fieldAddr _ _ _) _ _ _ _; first | exact OpW.fieldAddr rfl hK | exact OpW.fieldAddrS rfl (by assumption) hK)
 | (show OpW _ (.load _ _) _ _ _ _; first | exact OpW.load (v := .int _ _) rfl (Blk.grow (by assumption) hg) rfl hK | exact OpW.load (v := .slice _ _ _) rfl (Blk.grow (by assumption) hg) rfl hK | exact OpW.load (v := .bool _) rfl (Blk.grow (by assumption) hg) rfl hK | exact OpW.load (v := .pointer _) rfl (Blk.grow (by assumption) hg) rfl hK | exact OpW.load (v := .string _) rfl (Blk.grow (by assumption) hg) rfl hK | exact OpW.loadS rfl (Sl.grow (by assumption) hg) (by first | assumption | rfl) hK | exact OpW.load rfl (Blk.keep (by assumption) hg (by assumption)) rfl hK | exact OpW.loadS rfl (Sl.keep (by assumption) hg (by assumption)) (by first | assumption | rfl) hK)
 | (show OpW _ (.binOp .lss _ _ _ _) _ _ _ _; first | exact OpW.lss rfl rfl hK | exact OpW.lssStr rfl rfl hK)
 | (show OpW _ (.binOp .leq _ _ _ _) _ _ _ _; first | exact OpW.leq rfl rfl hK)
 | (show OpW _ (.binOp .gtr _ _ _ _) _ _ _ _; first | exact OpW.gtr rfl rfl hK)
 | (show OpW _ (.binOp .geq _ _ _ _) _ _ _ _; first | exact OpW.geq rfl rfl hK)
 | (show OpW _ (.binOp .eql _ _ _ _) _ _ _ _; first | exact OpW.eqlI rfl rfl hK | exact OpW.eqlP rfl rfl hK | exact OpW.eqlS rfl rfl hK | exact OpW.eqlStr rfl rfl hK | exact OpW.eqlB rfl rfl hK)
 | (show OpW _ (.binOp .neq _ _ _ _) _ _ _ _; first | exact OpW.neqI rfl rfl hK | exact OpW.neqP rfl rfl hK | exact OpW.neqStr rfl rfl hK | exact OpW.neqB rfl rfl hK)
 | (show OpW _ (.binOp .add _ _ _ _) _ _ _ _; first | exact OpW.addI _ rfl rfl ⟨rfl, by omega, by omega⟩ hK | exact OpW.addU _ rfl rfl ⟨rfl, by omega, by omega⟩ hK | exact OpW.addS rfl rfl (by omega) hK)
 | (show OpW _ (.binOp .sub _ _ _ _) _ _ _ _; first | exact OpW.subI _ rfl rfl ⟨rfl, by omega, by omega⟩ hK)
 | (show OpW _ (.binOp .mul _ _ _ _) _ _ _ _; first | exact OpW.mulI _ rfl rfl ⟨rfl, by omega, by omega⟩ hK)
 | (show OpW _ (.convert _ _ _) _ _ _ _; first | exact OpW.convByte rfl hK | exact OpW.convU64 rfl ⟨by omega, by omega⟩ hK | exact OpW.convI64 rfl ⟨by omega, by omega⟩ hK)
 | (show OpW _ (.call ⟨.builtin .len, _, _⟩) _ _ _ _; first | exact OpW.len rfl hK | exact OpW.lenStr rfl hK)
 | (show OpW _ (.call ⟨.builtin .cap, _, _⟩) _ _ _ _; first | exact OpW.cap rfl hK)
 | (show OpW _ (.call ⟨.builtin .min, _, _⟩) _ _ _ _; first | exact OpW.min rfl rfl hK)
 | (show OpW _ (.call ⟨.builtin .max, _, _⟩) _ _ _ _; first | exact OpW.max rfl rfl hK)
 | (show OpW _ (.unOp .not _ _) _ _ _ _; first | exact OpW.notP rfl hK | exact OpW.not rfl hK)
 | (show OpW _ (.extract _ _) _ _ _ _; first | exact OpW.extract (v := .int _ _) rfl rfl hK | exact OpW.extract (v := .bool _) rfl rfl hK | exact OpW.extract (v := .slice _ _ _) rfl rfl hK | exact OpW.extract (v := .pointer _) rfl rfl hK | exact OpW.extract (v := .string _) rfl rfl hK | exact OpW.extract (v := .agg _) rfl rfl hK | exact OpW.extract (v := .tuple _) rfl rfl hK | exact OpW.extract (v := .func _ _ _) rfl rfl hK)
 | (show OpW _ (.pick _ _ _) _ _ _ _; first | exact OpW.pickT (v := .bool _) rfl rfl hK | exact OpW.pickF (v := .bool _) rfl rfl hK)))
    (hn : AL2 P N ops w0 S S1 s Q t (upd e d v) w) : AL2 P N ops w0 S S1 s Q (.take i t) e w :=
  AL2.gtakeU hi hj hn' hd hb hv (fun w hg => ho w hg _ ⟨rfl, rfl⟩) hn
theorem AL2.oauto {i d : Nat} {op : Op} {v : Value} {pos : String} {after : Array Edge} {t : Tr} (his : Nat.beq i s = false := by rfl) (hi : ops[i]? = some ⟨some d, op, ty, pos, after, none⟩ := by rfl) (hd : Nat.blt d N = true := by rfl) (hv : valOp op = true := by rfl)
    (ho : OpV P op ty e w v := by
      intro K hK
      (first
 | (show OpW _ (.move _) _ _ _ _; first | exact OpW.move (v := .int _ _) rfl hK | exact OpW.move (v := .bool _) rfl hK | exact OpW.move (v := .slice _ _ _) rfl hK | exact OpW.move (v := .pointer _) rfl hK | exact OpW.move (v := .string _) rfl hK | exact OpW.move (v := .agg _) rfl hK | exact OpW.move (v := .tuple _) rfl hK | exact OpW.move (v := .func _ _ _) rfl hK)
 | (show OpW _ (.assign _) _ _ _ _; first | exact OpW.assign (v := .int _ _) rfl hK | exact OpW.assign (v := .bool _) rfl hK | exact OpW.assign (v := .slice _ _ _) rfl hK | exact OpW.assign (v := .pointer _) rfl hK | exact OpW.assign (v := .string _) rfl hK | exact OpW.assign (v := .agg _) rfl hK | exact OpW.assign (v := .tuple _) rfl hK | exact OpW.assign (v := .func _ _ _) rfl hK)
 | (show OpW _ (.nilCheck _) _ _ _ _; first | exact OpW.nilCheck rfl hK)
 | (show OpW _ (.fieldAddr _ _ _) _ _ _ _; first | exact OpW.fieldAddr rfl hK | exact OpW.fieldAddrS rfl (by assumption) hK)
 | (show OpW _ (.load _ _) _ _ _ _; first | exact OpW.load (v := .int _ _) rfl (by assumption) rfl hK | exact OpW.load (v := .slice _ _ _) rfl (by assumption) rfl hK | exact OpW.load (v := .bool _) rfl (by assumption) rfl hK | exact OpW.load (v := .pointer _) rfl (by assumption) rfl hK | exact OpW.load (v := .string _) rfl (by assumption) rfl hK | exact OpW.loadS rfl (by assumption) (by first | assumption | rfl) hK)
 | (show OpW _ (.binOp .lss _ _ _ _) _ _ _ _; first | exact OpW.lss rfl rfl hK | exact OpW.lssStr rfl rfl hK)
 | (show OpW _ (.binOp .leq _ _ _ _) _ _ _ _; first | exact OpW.leq rfl rfl hK)
 | (show OpW _ (.binOp .gtr _ _ _ _) _ _ _ _; first | exact OpW.gtr rfl rfl hK)
 | (show OpW _ (.binOp .geq _ _ _ _) _ _ _ _; first | exact OpW.geq rfl rfl hK)
 | (show OpW _ (.binOp .eql _ _ _ _) _ _ _ _; first | exact OpW.eqlI rfl rfl hK | exact OpW.eqlP rfl rfl hK | exact OpW.eqlS rfl rfl hK | exact OpW.eqlStr rfl rfl hK | exact OpW.eqlB rfl rfl hK)
 | (show OpW _ (.binOp .neq _ _ _ _) _ _ _ _; first | exact OpW.neqI rfl rfl hK | exact OpW.neqP rfl rfl hK | exact OpW.neqStr rfl rfl hK | exact OpW.neqB rfl rfl hK)
 | (show OpW _ (.binOp .add _ _ _ _) _ _ _ _; first | exact OpW.addI _ rfl rfl ⟨rfl, by omega, by omega⟩ hK | exact OpW.addU _ rfl rfl ⟨rfl, by omega, by omega⟩ hK | exact OpW.addS rfl rfl (by omega) hK)
 | (show OpW _ (.binOp .sub _ _ _ _) _ _ _ _; first | exact OpW.subI _ rfl rfl ⟨rfl, by omega, by omega⟩ hK)
 | (show OpW _ (.binOp .mul _ _ _ _) _ _ _ _; first | exact OpW.mulI _ rfl rfl ⟨rfl, by omega, by omega⟩ hK)
 | (show OpW _ (.convert _ _ _) _ _ _ _; first | exact OpW.convByte rfl hK | exact OpW.convU64 rfl ⟨by omega, by omega⟩ hK | exact OpW.convI64 rfl ⟨by omega, by omega⟩ hK)
 | (show OpW _ (.call ⟨.builtin .len, _, _⟩) _ _ _ _; first | exact OpW.len rfl hK | exact OpW.lenStr rfl hK)
 | (show OpW _ (.call ⟨.builtin .cap, _, _⟩) _ _ _ _; first | exact OpW.cap rfl hK)
 | (show OpW _ (.call ⟨.builtin .min, _, _⟩) _ _ _ _; first | exact OpW.min rfl rfl hK)
 | (show OpW _ (.call ⟨.builtin .max, _, _⟩) _ _ _ _; first | exact OpW.max rfl rfl hK)
 | (show OpW _ (.unOp .not _ _) _ _ _ _; first | exact OpW.notP rfl hK | exact OpW.not rfl hK)
 | (show OpW _ (.extract _ _) _ _ _ _; first | exact OpW.extract (v := .int _ _) rfl rfl hK | exact OpW.extract (v := .bool _) rfl rfl hK | exact OpW.extract (v := .slice _ _ _) rfl rfl hK | exact OpW.extract (v := .pointer _) rfl rfl hK | exact OpW.extract (v := .string _) rfl rfl hK | exact OpW.extract (v := .agg _) rfl rfl hK | exact OpW.extract (v := .tuple _) rfl rfl hK | exact OpW.extract (v := .func _ _ _) rfl rfl hK)
 | (show OpW _ (.pick _ _ _) _ _ _ _; first | exact OpW.pickT (v := .bool _) rfl rfl hK | exact OpW.pickF (v := .bool _) rfl rfl hK)))
    (hn : AL2 P N ops w0 S S1 s Q t (upd e d v) w) : AL2 P N ops w0 S S1 s Q (.one i t) e w :=
  AL2.one his hi hd (ho _ ⟨id, hn⟩)
end
end B
end Go.Proofs.Ytlofcomnhecgfaa
/- What arguments read as: numbers, bools, rows of bytes, files, scripts of layers 6 and 7. No conditions. -/
namespace Go.Proofs.Ytlofcomnhecgfaa
namespace B
set_option linter.unusedVariables false
set_option maxRecDepth 100000
theorem sum1' {H : Type} (a : DataW H) : Rows.uptoBulkAll ([a] ++ []) = Rows.uptoBulk a := by simp [Rows.uptoBulkAll]
theorem sum3 {H : Type} (a b c : DataW H) : Rows.uptoBulkAll ([a, b, c] ++ []) = Rows.uptoBulk a + (Rows.uptoBulk b + Rows.uptoBulk c) := by simp [Rows.uptoBulkAll]
theorem cellsOf52 : Try.prog.cellsOf 52 = 2 := by kernel_rfl
theorem cellsOf75 : Try.prog.cellsOf 75 = 5 := by kernel_rfl
theorem cellsOf93 : Try.prog.cellsOf 93 = 4 := by kernel_rfl
/-- One row of bytes among others. -/
def IsRow (w : World) (l : List UInt8) (cs : List Value) : Prop := ∃ A cap, cs = [.slice A l.length cap] ∧ Sl w A (bvs l) ∧ l.length ≤ cap ∧ cap ≤ maxLen
/-- A file. -/
def IsFile (w : World) (x : List UInt8 × List UInt8) (cs : List Value) : Prop := ∃ A cap, cs = [.string (bstr x.1), .slice A x.2.length cap] ∧ Sl w A (bvs x.2) ∧ x.2.length ≤ cap ∧ cap ≤ maxLen
/-- A step of layer 6's scripts. -/
structure Op6 where
  kind : Int
  n : Int
  name : List UInt8
  b : List UInt8
  keep : List Bool
def IsOp6 (w : World) (o : Op6) (cs : List Value) : Prop := ∃ A cap K kcap, cs = [.int .i64 o.kind, .int .i64 o.n, .string (bstr o.name), .slice A o.b.length cap, .slice K o.keep.length kcap] ∧ Sl w A (bvs o.b) ∧ o.b.length ≤ cap ∧ cap ≤ maxLen ∧ Sl w K (o.keep.map .bool) ∧ o.keep.length ≤ kcap ∧ kcap ≤ maxLen ∧ (-9223372036854775808 ≤ o.n ∧ o.n ≤ 9223372036854775807)
/-- A step of layer 7's scripts. -/
structure Op7 where
  kind : Int
  n : Int
  b : List UInt8
  keep : List Bool
def IsOp7 (w : World) (o : Op7) (cs : List Value) : Prop := ∃ A cap K kcap, cs = [.int .i64 o.kind, .int .i64 o.n, .slice A o.b.length cap, .slice K o.keep.length kcap] ∧ Sl w A (bvs o.b) ∧ o.b.length ≤ cap ∧ cap ≤ maxLen ∧ Sl w K (o.keep.map .bool) ∧ o.keep.length ≤ kcap ∧ kcap ≤ maxLen ∧ (-9223372036854775808 ≤ o.n ∧ o.n ≤ 9223372036854775807)
section
variable {H : Type} {enc : TypeId × Value → H} {w : World} {base : Nat} {spare : Nat → Bool} {held : Bool} {fuel : Nat} {cs : List Value} {x : DataW H × List MemPlace}
theorem open_row (h : DataW.trod enc Try.prog w base spare held fuel 22 cs = some x) : ∃ l, IsRow w l cs ∧ l.length + 1 ≤ Rows.uptoBulk x.1 := by
  have hv : ∃ v, cs = [v] := by
    rcases inv_slice Try.underlying22 h with ⟨h1, _⟩ | ⟨a, len, cap, elems, rest, fuel', h1, _⟩
    · exact ⟨_, h1⟩
    · exact ⟨_, h1⟩
  obtain ⟨v, rfl⟩ := hv
  obtain ⟨l, ⟨A, cap, e3, k1, k2, k3⟩, hb⟩ := open_bytes Try.underlying22 Try.underlying5 cellsOf5 h
  exact ⟨l, ⟨A, cap, by rw [e3], k3, k1, k2⟩, hb⟩
theorem open_bool1 {v : Value} (h : DataW.trod enc Try.prog w base spare held fuel 49 [v] = some x) : ∃ l, InBools w v l ∧ l.length + 1 ≤ Rows.uptoBulk x.1 := open_bools Try.underlying49 Try.underlying4 cellsOf4 h
theorem parts2 {H : Type} {xs : List (DataW H × List MemPlace)} {y0 y1 : DataW H × List MemPlace} (hl : xs.length = 2) (h0 : xs[0]? = some y0) (h1 : xs[1]? = some y1) : Rows.uptoBulk (DataW.agg (xs.map (·.1))) = Rows.uptoBulk y0.1 + Rows.uptoBulk y1.1 + 1 := by
  match xs, hl with
  | [a, b], _ =>
    simp only [List.getElem?_cons_zero, List.getElem?_cons_succ, Option.some.injEq] at h0 h1
    subst h0 h1
    simp [Rows.uptoBulk, Rows.uptoBulkAll]
theorem parts4 {H : Type} {xs : List (DataW H × List MemPlace)} {y2 y3 : DataW H × List MemPlace} (hl : xs.length = 4) (h2 : xs[2]? = some y2) (h3 : xs[3]? = some y3) : Rows.uptoBulk y2.1 + Rows.uptoBulk y3.1 ≤ Rows.uptoBulk (DataW.agg (xs.map (·.1))) := by
  match xs, hl with
  | [a, b, c, d], _ =>
    simp only [List.getElem?_cons_zero, List.getElem?_cons_succ, Option.some.injEq] at h2 h3
    subst h2 h3
    simp [Rows.uptoBulk, Rows.uptoBulkAll]
    omega
theorem parts5 {H : Type} {xs : List (DataW H × List MemPlace)} {y2 y3 y4 : DataW H × List MemPlace} (hl : xs.length = 5) (h2 : xs[2]? = some y2) (h3 : xs[3]? = some y3) (h4 : xs[4]? = some y4) : Rows.uptoBulk y2.1 + Rows.uptoBulk y3.1 + Rows.uptoBulk y4.1 ≤ Rows.uptoBulk (DataW.agg (xs.map (·.1))) := by
  match xs, hl with
  | [a, b, c, d, e], _ =>
    simp only [List.getElem?_cons_zero, List.getElem?_cons_succ, Option.some.injEq] at h2 h3 h4
    subst h2 h3 h4
    simp [Rows.uptoBulk, Rows.uptoBulkAll]
    omega
theorem open_file (h : DataW.trod enc Try.prog w base spare held fuel 52 cs = some x) : ∃ o, IsFile w o cs ∧ o.1.length + o.2.length + 1 ≤ Rows.uptoBulk x.1 := by
  obtain ⟨hl, xs, f', h1, h2, h3⟩ := inv_struct Try.underlying52 h
  rw [cellsOf52] at hl
  obtain ⟨c0, c1, rfl⟩ := len2 hl
  obtain ⟨y0, g0, t0⟩ := h3 0 _ rfl
  obtain ⟨y1, g1, t1⟩ := h3 1 _ rfl
  simp only [cellsOf9, cellsOf22, List.drop_zero, List.drop_succ_cons, List.take_succ_cons, List.take_zero] at t0 t1
  obtain ⟨nm, e0, b0⟩ := inv_string Try.underlying9 t0
  obtain ⟨l, ⟨A, cap, e3, k1, k2, k3⟩, hb⟩ := open_bytes Try.underlying22 Try.underlying5 cellsOf5 t1
  simp only [List.cons.injEq, and_true] at e0
  subst e0 e3
  refine ⟨(nm, l), ⟨A, cap, rfl, k3, k1, k2⟩, ?_⟩
  rw [h1, parts2 (by rw [h2]; rfl) g0 g1, b0]
  simp only [Rows.uptoBulk]
  have hb' : l.length + 1 ≤ Rows.uptoBulk y1.1 := hb
  show nm.length + l.length + 1 ≤ _
  omega
theorem open_op6 (h : DataW.trod enc Try.prog w base spare held fuel 75 cs = some x) : ∃ o, IsOp6 w o cs ∧ o.name.length + o.b.length + o.keep.length + 1 ≤ Rows.uptoBulk x.1 := by
  obtain ⟨hl, xs, f', h1, h2, h3⟩ := inv_struct Try.underlying75 h
  rw [cellsOf75] at hl
  obtain ⟨c0, c1, c2, c3, c4, rfl⟩ := len5 hl
  obtain ⟨y0, g0, t0⟩ := h3 0 _ rfl
  obtain ⟨y1, g1, t1⟩ := h3 1 _ rfl
  obtain ⟨y2, g2, t2⟩ := h3 2 _ rfl
  obtain ⟨y3, g3, t3⟩ := h3 3 _ rfl
  obtain ⟨y4, g4, t4⟩ := h3 4 _ rfl
  simp only [cellsOf3, cellsOf9, cellsOf22, cellsOf49, List.drop_zero, List.drop_succ_cons, List.take_succ_cons, List.take_zero] at t0 t1 t2 t3 t4
  obtain ⟨kind, e0, _, _⟩ := inv_int Try.underlying3 t0
  obtain ⟨n, e1, w1, _⟩ := inv_int Try.underlying3 t1
  obtain ⟨nm, e2, b2⟩ := inv_string Try.underlying9 t2
  obtain ⟨l, ⟨A, cap, e3, k1, k2, k3⟩, hb⟩ := open_bytes Try.underlying22 Try.underlying5 cellsOf5 t3
  obtain ⟨ks, ⟨K, kcap, e4, q1, q2, q3⟩, hb4⟩ := open_bool1 t4
  simp only [List.cons.injEq, and_true] at e0 e1 e2
  subst e0 e1 e2 e3 e4
  refine ⟨⟨kind, n, nm, l, ks⟩, ⟨A, cap, K, kcap, rfl, k3, k1, k2, q3, q1, q2, wf_i64 w1⟩, ?_⟩
  have hp := parts5 (by rw [h2]; rfl) g2 g3 g4
  rw [h1]
  have hb' : l.length + 1 ≤ Rows.uptoBulk y3.1 := hb
  have hb4' : ks.length + 1 ≤ Rows.uptoBulk y4.1 := hb4
  have hb2 : Rows.uptoBulk y2.1 = nm.length + 1 := by rw [b2]; simp [Rows.uptoBulk]
  show nm.length + l.length + ks.length + 1 ≤ _
  omega
theorem open_op7 (h : DataW.trod enc Try.prog w base spare held fuel 93 cs = some x) : ∃ o, IsOp7 w o cs ∧ o.b.length + o.keep.length + 1 ≤ Rows.uptoBulk x.1 := by
  obtain ⟨hl, xs, f', h1, h2, h3⟩ := inv_struct Try.underlying93 h
  rw [cellsOf93] at hl
  obtain ⟨c0, c1, c3, c4, rfl⟩ := len4 hl
  obtain ⟨y0, g0, t0⟩ := h3 0 _ rfl
  obtain ⟨y1, g1, t1⟩ := h3 1 _ rfl
  obtain ⟨y3, g3, t3⟩ := h3 2 _ rfl
  obtain ⟨y4, g4, t4⟩ := h3 3 _ rfl
  simp only [cellsOf3, cellsOf22, cellsOf49, List.drop_zero, List.drop_succ_cons, List.take_succ_cons, List.take_zero] at t0 t1 t3 t4
  obtain ⟨kind, e0, _, _⟩ := inv_int Try.underlying3 t0
  obtain ⟨n, e1, w1, _⟩ := inv_int Try.underlying3 t1
  obtain ⟨l, ⟨A, cap, e3, k1, k2, k3⟩, hb⟩ := open_bytes Try.underlying22 Try.underlying5 cellsOf5 t3
  obtain ⟨ks, ⟨K, kcap, e4, q1, q2, q3⟩, hb4⟩ := open_bool1 t4
  simp only [List.cons.injEq, and_true] at e0 e1
  subst e0 e1 e3 e4
  refine ⟨⟨kind, n, l, ks⟩, ⟨A, cap, K, kcap, rfl, k3, k1, k2, q3, q1, q2, wf_i64 w1⟩, ?_⟩
  have hp := parts4 (by rw [h2]; rfl) g3 g4
  rw [h1]
  have hb' : l.length + 1 ≤ Rows.uptoBulk y3.1 := hb
  have hb4' : ks.length + 1 ≤ Rows.uptoBulk y4.1 := hb4
  show l.length + ks.length + 1 ≤ _
  omega
end
section
variable {H : Type} {enc : TypeId × Value → H} {sp : Nat → Bool} {hd : Bool} {W : World} {base b0 : Nat}
theorem arg_int {v : Value} {d : DataW H} {p : List MemPlace} (h : DataW.Trod enc Try.prog W b0 sp hd 3 v d p) (o : Value.okWide Try.prog W .any base 3 v) : ∃ n : Int, v = .int .i64 n ∧ -9223372036854775808 ≤ n ∧ n ≤ 9223372036854775807 := by
  obtain ⟨fuel, hf⟩ := h
  obtain ⟨n, rfl⟩ := WideShapes.okWide_int Try.underlying3 o
  obtain ⟨m, e, hw, _⟩ := inv_int Try.underlying3 hf
  simp only [Value.cells, List.cons.injEq, Value.int.injEq, true_and, and_true] at e
  subst e
  exact ⟨n, rfl, wf_i64 hw⟩
theorem arg_bools {v : Value} {d : DataW H} {p : List MemPlace} (h : DataW.Trod enc Try.prog W b0 sp hd 49 v d p) (o : Value.okWide Try.prog W .any base 49 v) : ∃ l, InBools W v l ∧ l.length + 1 ≤ Rows.uptoBulk d := by
  obtain ⟨fuel, hf⟩ := h
  obtain ⟨a, len, cap, rfl⟩ := WideShapes.okWide_slice Try.underlying49 o
  exact open_bool1 hf
theorem arg_rows {v : Value} {d : DataW H} {p : List MemPlace} (h : DataW.Trod enc Try.prog W b0 sp hd 56 v d p) (o : Value.okWide Try.prog W .any base 56 v) : ∃ xs, InStructs W v 1 (IsRow W) xs ∧ (xs.map fun l => l.length + 1).sum + 1 ≤ Rows.uptoBulk d ∧ xs.length + 1 ≤ Rows.uptoBulk d := by
  obtain ⟨fuel, hf⟩ := h
  obtain ⟨a, len, cap, rfl⟩ := WideShapes.okWide_slice Try.underlying56 o
  exact open_structs (IsRow W) (fun l => l.length + 1) Try.underlying56 cellsOf22 (by decide) (fun fuel cs x h => open_row h) hf
theorem arg_files {v : Value} {d : DataW H} {p : List MemPlace} (h : DataW.Trod enc Try.prog W b0 sp hd 39 v d p) (o : Value.okWide Try.prog W .any base 39 v) : ∃ xs, InStructs W v 2 (IsFile W) xs ∧ (xs.map fun x => x.1.length + x.2.length + 1).sum + 1 ≤ Rows.uptoBulk d ∧ xs.length + 1 ≤ Rows.uptoBulk d := by
  obtain ⟨fuel, hf⟩ := h
  obtain ⟨a, len, cap, rfl⟩ := WideShapes.okWide_slice Try.underlying39 o
  exact open_structs (IsFile W) (fun x => x.1.length + x.2.length + 1) Try.underlying39 cellsOf52 (by decide) (fun fuel cs x h => open_file h) hf
theorem arg_ops6 {v : Value} {d : DataW H} {p : List MemPlace} (h : DataW.Trod enc Try.prog W b0 sp hd 73 v d p) (o : Value.okWide Try.prog W .any base 73 v) : ∃ ops, InStructs W v 5 (IsOp6 W) ops ∧ (ops.map fun o => o.name.length + o.b.length + o.keep.length + 1).sum + 1 ≤ Rows.uptoBulk d ∧ ops.length + 1 ≤ Rows.uptoBulk d := by
  obtain ⟨fuel, hf⟩ := h
  obtain ⟨a, len, cap, rfl⟩ := WideShapes.okWide_slice Try.underlying73 o
  exact open_structs (IsOp6 W) (fun o => o.name.length + o.b.length + o.keep.length + 1) Try.underlying73 cellsOf75 (by decide) (fun fuel cs x h => open_op6 h) hf
theorem arg_ops7 {v : Value} {d : DataW H} {p : List MemPlace} (h : DataW.Trod enc Try.prog W b0 sp hd 91 v d p) (o : Value.okWide Try.prog W .any base 91 v) : ∃ ops, InStructs W v 4 (IsOp7 W) ops ∧ (ops.map fun o => o.b.length + o.keep.length + 1).sum + 1 ≤ Rows.uptoBulk d ∧ ops.length + 1 ≤ Rows.uptoBulk d := by
  obtain ⟨fuel, hf⟩ := h
  obtain ⟨a, len, cap, rfl⟩ := WideShapes.okWide_slice Try.underlying91 o
  exact open_structs (IsOp7 W) (fun o => o.b.length + o.keep.length + 1) Try.underlying91 cellsOf93 (by decide) (fun fuel cs x h => open_op7 h) hf
end
end B
end Go.Proofs.Ytlofcomnhecgfaa
