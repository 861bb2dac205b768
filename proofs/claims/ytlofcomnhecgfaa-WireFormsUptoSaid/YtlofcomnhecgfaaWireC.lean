/- isthmuslaw02.same tells whether two slices hold the same bytes. No conditions but sizes. -/
import Derived.Test.YtlofcomnhecgfaaWireB
namespace Go.Proofs.Ytlofcomnhecgfaa
namespace B
attribute [local irreducible] OpW WL CW Ret Sl Blk thn blk outOf
set_option linter.unusedVariables false
set_option linter.unusedSimpArgs false

theorem bvs_at {l : List UInt8} {k : Nat} (h : k < l.length) : (bvs l)[k]? = some (bv l[k]) := by simp [bvs, h]
theorem take_eq_succ {l m : List UInt8} {k : Nat} (hl : k < l.length) (hm : k < m.length) (h : l.take k = m.take k) : l.take (k + 1) = m.take (k + 1) ↔ l[k] = m[k] := by
  rw [List.take_succ_eq_append_getElem hl, List.take_succ_eq_append_getElem hm, h]
  exact ⟨fun h => List.head_eq_of_cons_eq (List.append_cancel_left h), fun h => by rw [h]⟩

theorem same26 (A A2 : Option Addr) (cap cap2 : Nat) (l m : List UInt8) (w : World) (hs : Sl w A (bvs l)) (hm : Sl w A2 (bvs m)) (hl : l.length ≤ 9223372036854775807) : Ret Try.prog 26 #[.slice A l.length cap, .slice A2 m.length cap2] w fun v w' => v = .bool (decide (l = m)) ∧ Grow w w' := by
  refine Ret.enter (fn := Try.f26) (N := 26) Try.func26 rfl Try.ntmps26 rfl ?_
  repeat (first | refine WL.nil ?_ | refine WL.auto (h := ?_) | refine WL.gskip rfl rfl rfl rfl ?_ | refine WL.gauto (h := ?_) | (refine CW.seq ?_; intro K hK) | refine CW.block ?_ | refine CW.region ?_ | refine CW.skip ?_ | refine CW.exit ?_ | refine CW.ret ?_ | (refine thn_ret (K := K) ?_; clear hK K) | refine thn_ret ?_ | refine blk_ret ?_ | (refine thn_exit (K := K) ?_; clear hK K) | refine thn_exit ?_ | refine blk_here ?_ | refine blk_past rfl ?_ | refine thn_norm ?_ | refine blk_norm ?_ | refine CW.condT rfl ?_ | refine CW.condF rfl ?_ | (refine hK _ _ ?_; clear hK K))
  refine CW.condP rfl (fun h1 => ?_) (fun h1 => ?_)
  · repeat (first | refine WL.nil ?_ | refine WL.auto (h := ?_) | refine WL.gskip rfl rfl rfl rfl ?_ | refine WL.gauto (h := ?_) | (refine CW.seq ?_; intro K hK) | refine CW.block ?_ | refine CW.region ?_ | refine CW.skip ?_ | refine CW.exit ?_ | refine CW.ret ?_ | (refine thn_ret (K := K) ?_; clear hK K) | refine thn_ret ?_ | refine blk_ret ?_ | (refine thn_exit (K := K) ?_; clear hK K) | refine thn_exit ?_ | refine blk_here ?_ | refine blk_past rfl ?_ | refine thn_norm ?_ | refine blk_norm ?_ | refine CW.condT rfl ?_ | refine CW.condF rfl ?_ | (refine hK _ _ ?_; clear hK K))
    have : ¬ l = m := fun h => h1 (by rw [h])
    exact out1 (v := .bool false) Try.results26 rfl ⟨by simp [this], Chg.refl _ _⟩ (Or.inr rfl)
  · have hlm : l.length = m.length := by omega
    repeat (first | refine WL.nil ?_ | refine WL.auto (h := ?_) | refine WL.gskip rfl rfl rfl rfl ?_ | refine WL.gauto (h := ?_) | (refine CW.seq ?_; intro K hK) | refine CW.block ?_ | refine CW.region ?_ | refine CW.skip ?_ | refine CW.exit ?_ | refine CW.ret ?_ | (refine thn_ret (K := K) ?_; clear hK K) | refine thn_ret ?_ | refine blk_ret ?_ | (refine thn_exit (K := K) ?_; clear hK K) | refine thn_exit ?_ | refine blk_here ?_ | refine blk_past rfl ?_ | refine thn_norm ?_ | refine blk_norm ?_ | refine CW.condT rfl ?_ | refine CW.condF rfl ?_ | (refine hK _ _ ?_; clear hK K))
    refine CW.loop (fun n e w2 => ∃ k, k ≤ l.length ∧ n = l.length - k ∧ l.take k = m.take k ∧ Grow w w2 ∧ ∃ e0, e = upd (upd (upd (upd e0 0 (.slice A l.length cap)) 1 (.slice A2 m.length cap2)) 12 (.int .i64 l.length)) 13 (.int .i64 k)) l.length ?_ ?_
    · exact ⟨0, by omega, by omega, by simp, Chg.refl _ _, rep4 rfl rfl rfl rfl⟩
    rintro n e w2 ⟨k, hk, rfl, heq, hg2, e0, rfl⟩ KJ hJ
    repeat (first | refine WL.nil ?_ | refine WL.auto (h := ?_) | refine WL.gskip rfl rfl rfl rfl ?_ | refine WL.gauto (h := ?_) | (refine CW.seq ?_; intro K hK) | refine CW.block ?_ | refine CW.region ?_ | refine CW.skip ?_ | refine CW.exit ?_ | refine CW.ret ?_ | (refine thn_ret (K := K) ?_; clear hK K) | refine thn_ret ?_ | refine blk_ret ?_ | (refine thn_exit (K := K) ?_; clear hK K) | refine thn_exit ?_ | refine blk_here ?_ | refine blk_past rfl ?_ | refine thn_norm ?_ | refine blk_norm ?_ | refine CW.condT rfl ?_ | refine CW.condF rfl ?_ | (refine hK _ _ ?_; clear hK K))
    refine CW.condP rfl (fun h2 => ?_) (fun h2 => ?_)
    · have hkl : k < l.length := by omega
      have hkm : k < m.length := by omega
      have hb1 : k < (bvs l).length := by rw [bvs_length]; exact hkl
      have hb2 : k < (bvs m).length := by rw [bvs_length]; exact hkm
      have hs2 := hs.grow hg2
      have hm2 := hm.grow hg2
      have hg1 := bvs_at hkl
      have hg3 := bvs_at hkm
      repeat (first | refine WL.nil ?_ | refine WL.auto (h := ?_) | refine WL.gskip rfl rfl rfl rfl ?_ | refine WL.gauto (h := ?_) | (refine CW.seq ?_; intro K hK) | refine CW.block ?_ | refine CW.region ?_ | refine CW.skip ?_ | refine CW.exit ?_ | refine CW.ret ?_ | (refine thn_ret (K := K) ?_; clear hK K) | refine thn_ret ?_ | refine blk_ret ?_ | (refine thn_exit (K := K) ?_; clear hK K) | refine thn_exit ?_ | refine blk_here ?_ | refine blk_past rfl ?_ | refine thn_norm ?_ | refine blk_norm ?_ | refine CW.condT rfl ?_ | refine CW.condF rfl ?_ | (refine hK _ _ ?_; clear hK K))
      refine CW.quiet rfl (by kernel_rfl) ?_
      repeat (first | refine QL.nil ?_ | refine QL.auto (hn := ?_) | refine QL.gskip rfl rfl rfl rfl ?_ | refine QL.gauto (hn := ?_))
      refine QL.step rfl rfl (fun w hg => OpW.indexAddr k rfl rfl rfl hkl (sl_ne hs hb1) (sl_sp hs hb1) ⟨rfl, rfl⟩) ?_
      refine QL.step rfl rfl (fun w hg => OpW.loadS (v := bv l[k]) rfl (hs2.grow hg) (by simpa using hg1) ⟨rfl, rfl⟩) ?_
      repeat (first | refine QL.nil ?_ | refine QL.auto (hn := ?_) | refine QL.gskip rfl rfl rfl rfl ?_ | refine QL.gauto (hn := ?_))
      refine QL.step rfl rfl (fun w hg => OpW.indexAddr k rfl rfl rfl hkm (sl_ne hm hb2) (sl_sp hm hb2) ⟨rfl, rfl⟩) ?_
      refine QL.step rfl rfl (fun w hg => OpW.loadS (v := bv m[k]) rfl (hm2.grow hg) (by simpa using hg3) ⟨rfl, rfl⟩) ?_
      repeat (first | refine QL.nil ?_ | refine QL.auto (hn := ?_) | refine QL.gskip rfl rfl rfl rfl ?_ | refine QL.gauto (hn := ?_))
      intro w3 hg4
      repeat (first | refine WL.nil ?_ | refine WL.auto (h := ?_) | refine WL.gskip rfl rfl rfl rfl ?_ | refine WL.gauto (h := ?_) | (refine CW.seq ?_; intro K hK) | refine CW.block ?_ | refine CW.region ?_ | refine CW.skip ?_ | refine CW.exit ?_ | refine CW.ret ?_ | (refine thn_ret (K := K) ?_; clear hK K) | refine thn_ret ?_ | refine blk_ret ?_ | (refine thn_exit (K := K) ?_; clear hK K) | refine thn_exit ?_ | refine blk_here ?_ | refine blk_past rfl ?_ | refine thn_norm ?_ | refine blk_norm ?_ | refine CW.condT rfl ?_ | refine CW.condF rfl ?_ | (refine hK _ _ ?_; clear hK K))
      refine CW.condP rfl (fun h3 => ?_) (fun h3 => ?_)
      · repeat (first | refine WL.nil ?_ | refine WL.auto (h := ?_) | refine WL.gskip rfl rfl rfl rfl ?_ | refine WL.gauto (h := ?_) | (refine CW.seq ?_; intro K hK) | refine CW.block ?_ | refine CW.region ?_ | refine CW.skip ?_ | refine CW.exit ?_ | refine CW.ret ?_ | (refine thn_ret (K := K) ?_; clear hK K) | refine thn_ret ?_ | refine blk_ret ?_ | (refine thn_exit (K := K) ?_; clear hK K) | refine thn_exit ?_ | refine blk_here ?_ | refine blk_past rfl ?_ | refine thn_norm ?_ | refine blk_norm ?_ | refine CW.condT rfl ?_ | refine CW.condF rfl ?_ | (refine hK _ _ ?_; clear hK K))
        have : ¬ l = m := fun h => h3 (by subst h; rfl)
        exact out1 (v := .bool false) Try.results26 rfl ⟨by simp [this], hg2.then hg4⟩ (Or.inr rfl)
      · have h4 : l[k] = m[k] := by
          apply UInt8.toNat.inj
          omega
        repeat (first | refine WL.nil ?_ | refine WL.auto (h := ?_) | refine WL.gskip rfl rfl rfl rfl ?_ | refine WL.gauto (h := ?_) | (refine CW.seq ?_; intro K hK) | refine CW.block ?_ | refine CW.region ?_ | refine CW.skip ?_ | refine CW.exit ?_ | refine CW.ret ?_ | (refine thn_ret (K := K) ?_; clear hK K) | refine thn_ret ?_ | refine blk_ret ?_ | (refine thn_exit (K := K) ?_; clear hK K) | refine thn_exit ?_ | refine blk_here ?_ | refine blk_past rfl ?_ | refine thn_norm ?_ | refine blk_norm ?_ | refine CW.condT rfl ?_ | refine CW.condF rfl ?_ | (refine hK _ _ ?_; clear hK K))
        exact hJ (l.length - (k + 1)) _ _ (by omega) ⟨k + 1, by omega, rfl, (take_eq_succ hkl hkm heq).2 h4, hg2.then hg4, rep4 rfl rfl rfl rfl⟩
    · have hkk : k = l.length := by omega
      subst hkk
      repeat (first | refine WL.nil ?_ | refine WL.auto (h := ?_) | refine WL.gskip rfl rfl rfl rfl ?_ | refine WL.gauto (h := ?_) | (refine CW.seq ?_; intro K hK) | refine CW.block ?_ | refine CW.region ?_ | refine CW.skip ?_ | refine CW.exit ?_ | refine CW.ret ?_ | (refine thn_ret (K := K) ?_; clear hK K) | refine thn_ret ?_ | refine blk_ret ?_ | (refine thn_exit (K := K) ?_; clear hK K) | refine thn_exit ?_ | refine blk_here ?_ | refine blk_past rfl ?_ | refine thn_norm ?_ | refine blk_norm ?_ | refine CW.condT rfl ?_ | refine CW.condF rfl ?_ | (refine hK _ _ ?_; clear hK K))
      rw [List.take_length, hlm, List.take_length] at heq
      exact out1 (v := .bool true) Try.results26 rfl ⟨by simp [heq], hg2⟩ (Or.inr rfl)
end B
end Go.Proofs.Ytlofcomnhecgfaa
