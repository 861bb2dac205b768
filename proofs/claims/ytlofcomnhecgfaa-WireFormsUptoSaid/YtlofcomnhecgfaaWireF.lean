/- isthmuslaw02.fixed is true. No conditions. -/
import Derived.Test.YtlofcomnhecgfaaWireE
namespace Go.Proofs.Ytlofcomnhecgfaa
namespace B
attribute [local irreducible] OpW WL CW Ret Sl Blk thn blk outOf
set_option linter.unusedVariables false
set_option linter.unusedSimpArgs false

theorem fixed25 (w : World) : Ret Try.prog 25 #[] w fun v w' => v = .bool true ∧ Grow w w' := by
  refine Ret.enter (args := []) (fn := Try.f25) (N := 38) Try.func25 rfl Try.ntmps25 rfl ?_
  repeat (first | refine WL.nil ?_ | refine WL.auto (h := ?_) | refine WL.gskip rfl rfl rfl rfl ?_ | refine WL.gauto (h := ?_) | (refine CW.seq ?_; intro K hK) | refine CW.block ?_ | refine CW.region ?_ | refine CW.skip ?_ | refine CW.exit ?_ | refine CW.ret ?_ | (refine thn_ret (K := K) ?_; clear hK K) | refine thn_ret ?_ | refine blk_ret ?_ | (refine thn_exit (K := K) ?_; clear hK K) | refine thn_exit ?_ | refine blk_here ?_ | refine blk_past rfl ?_ | refine thn_norm ?_ | refine blk_norm ?_ | refine CW.condT rfl ?_ | refine CW.condF rfl ?_ | (refine hK _ _ ?_; clear hK K))
  first | refine WL.step rfl ?_ | refine WL.gstep rfl rfl rfl rfl ?_
  refine OpW.buildLit (bvs [0, 0, 0, 2, 97]) rfl rfl rfl (bvs_cells _) ?_
  intro b1 w1 hn1
  first | refine WL.step rfl ?_ | refine WL.gstep rfl rfl rfl rfl ?_
  refine OpW.call ((open43 _ _ [0, 0, 0, 2, 97] _ (blk_sl_lit hn1) (by decide)).mono ?_) rfl
  rintro v w2 ⟨rb, rfl, hr2, hg2, hrb⟩
  repeat (first | refine WL.nil ?_ | refine WL.auto (h := ?_) | refine WL.gskip rfl rfl rfl rfl ?_ | refine WL.gauto (h := ?_) | (refine CW.seq ?_; intro K hK) | refine CW.block ?_ | refine CW.region ?_ | refine CW.skip ?_ | refine CW.exit ?_ | refine CW.ret ?_ | (refine thn_ret (K := K) ?_; clear hK K) | refine thn_ret ?_ | refine blk_ret ?_ | (refine thn_exit (K := K) ?_; clear hK K) | refine thn_exit ?_ | refine blk_here ?_ | refine blk_past rfl ?_ | refine thn_norm ?_ | refine blk_norm ?_ | refine CW.condT rfl ?_ | refine CW.condF rfl ?_ | (refine hK _ _ ?_; clear hK K))
  first | refine WL.step rfl ?_ | refine WL.gstep rfl rfl rfl rfl ?_
  refine OpW.call ((N21 none 0 [] 258 _ (Sl.nil _ _) (by decide)).mono ?_) rfl
  rintro v w3 ⟨A3, c3, rfl, ho3, hg3⟩
  first | refine WL.step rfl ?_ | refine WL.gstep rfl rfl rfl rfl ?_
  refine OpW.buildLit (bvs [0, 0, 0, 0, 0, 0, 1, 2]) rfl rfl rfl (bvs_cells _) ?_
  intro b4 w4 hn4
  first | refine WL.step rfl ?_ | refine WL.gstep rfl rfl rfl rfl ?_
  refine OpW.call ((same26 _ _ _ _ _ [0, 0, 0, 0, 0, 0, 1, 2] _ (ho3.sl.grow hn4.grow) (blk_sl_lit hn4) (by decide)).mono ?_) rfl
  rintro v w5 ⟨rfl, hg5⟩
  rw [show decide (putN [] 258 = [0, 0, 0, 0, 0, 0, 1, 2]) = true from by decide]
  repeat (first | refine WL.nil ?_ | refine WL.auto (h := ?_) | refine WL.gskip rfl rfl rfl rfl ?_ | refine WL.gauto (h := ?_) | (refine CW.seq ?_; intro K hK) | refine CW.block ?_ | refine CW.region ?_ | refine CW.skip ?_ | refine CW.exit ?_ | refine CW.ret ?_ | (refine thn_ret (K := K) ?_; clear hK K) | refine thn_ret ?_ | refine blk_ret ?_ | (refine thn_exit (K := K) ?_; clear hK K) | refine thn_exit ?_ | refine blk_here ?_ | refine blk_past rfl ?_ | refine thn_norm ?_ | refine blk_norm ?_ | refine CW.condT rfl ?_ | refine CW.condF rfl ?_ | (refine hK _ _ ?_; clear hK K))
  first | refine WL.step rfl ?_ | refine WL.gstep rfl rfl rfl rfl ?_
  refine OpW.call ((T23 none 0 [] [97, 98] _ (Sl.nil _ _) (by decide) (by decide)).mono ?_) rfl
  rintro v w6 ⟨A6, c6, rfl, ho6, hg6⟩
  first | refine WL.step rfl ?_ | refine WL.gstep rfl rfl rfl rfl ?_
  refine OpW.buildLit (bvs [0, 0, 0, 2, 97, 98]) rfl rfl rfl (bvs_cells _) ?_
  intro b7 w7 hn7
  first | refine WL.step rfl ?_ | refine WL.gstep rfl rfl rfl rfl ?_
  refine OpW.call ((same26 _ _ _ _ _ [0, 0, 0, 2, 97, 98] _ (ho6.sl.grow hn7.grow) (blk_sl_lit hn7) (by decide)).mono ?_) rfl
  rintro v w8 ⟨rfl, hg8⟩
  rw [show decide (putB [] [97, 98] = [0, 0, 0, 2, 97, 98]) = true from by decide]
  repeat (first | refine WL.nil ?_ | refine WL.auto (h := ?_) | refine WL.gskip rfl rfl rfl rfl ?_ | refine WL.gauto (h := ?_) | (refine CW.seq ?_; intro K hK) | refine CW.block ?_ | refine CW.region ?_ | refine CW.skip ?_ | refine CW.exit ?_ | refine CW.ret ?_ | (refine thn_ret (K := K) ?_; clear hK K) | refine thn_ret ?_ | refine blk_ret ?_ | (refine thn_exit (K := K) ?_; clear hK K) | refine thn_exit ?_ | refine blk_here ?_ | refine blk_past rfl ?_ | refine thn_norm ?_ | refine blk_norm ?_ | refine CW.condT rfl ?_ | refine CW.condF rfl ?_ | (refine hK _ _ ?_; clear hK K))
  first | refine WL.step rfl ?_ | refine WL.gstep rfl rfl rfl rfl ?_
  refine OpW.buildLit (bvs [9]) rfl rfl rfl (bvs_cells _) ?_
  intro b9 w9 hn9
  first | refine WL.step rfl ?_ | refine WL.gstep rfl rfl rfl rfl ?_
  refine OpW.call ((F24 _ _ [9] true _ (blk_sl_lit hn9) (by decide)).mono ?_) rfl
  rintro v w10 ⟨A10, c10, rfl, ho10, hg10⟩
  first | refine WL.step rfl ?_ | refine WL.gstep rfl rfl rfl rfl ?_
  refine OpW.buildLit (bvs [9, 1]) rfl rfl rfl (bvs_cells _) ?_
  intro b11 w11 hn11
  first | refine WL.step rfl ?_ | refine WL.gstep rfl rfl rfl rfl ?_
  refine OpW.call ((same26 _ _ _ _ _ [9, 1] _ (ho10.sl.grow hn11.grow) (blk_sl_lit hn11) (by decide)).mono ?_) rfl
  rintro v w12 ⟨rfl, hg12⟩
  rw [show decide (putF [9] true = [9, 1]) = true from by decide]
  have hgA : Grow w2 w12 := hg3.then (hn4.grow.then (hg5.then (hg6.then (hn7.grow.then (hg8.then (hn9.grow.then (hg10.then (hn11.grow.then hg12))))))))
  repeat (first | refine WL.nil ?_ | refine WL.auto (h := ?_) | refine WL.gskip rfl rfl rfl rfl ?_ | refine WL.gauto (h := ?_) | (refine CW.seq ?_; intro K hK) | refine CW.block ?_ | refine CW.region ?_ | refine CW.skip ?_ | refine CW.exit ?_ | refine CW.ret ?_ | (refine thn_ret (K := K) ?_; clear hK K) | refine thn_ret ?_ | refine blk_ret ?_ | (refine thn_exit (K := K) ?_; clear hK K) | refine thn_exit ?_ | refine blk_here ?_ | refine blk_past rfl ?_ | refine thn_norm ?_ | refine blk_norm ?_ | refine CW.condT rfl ?_ | refine CW.condF rfl ?_ | (refine hK _ _ ?_; clear hK K))
  first | refine WL.step rfl ?_ | refine WL.gstep rfl rfl rfl rfl ?_
  refine OpW.call ((T46 rb _ _ _ (hr2.grow hgA)).mono ?_) rfl
  rw [show rB ([0, 0, 0, 2, 97], 0) = ([], ([0, 0, 0, 2, 97], 20)) from by decide]
  rintro v w13 ⟨rfl, hr13, hc13⟩
  first | refine WL.step rfl ?_ | refine WL.gstep rfl rfl rfl rfl ?_
  refine OpW.eqlStr (m := []) rfl rfl ?_
  repeat (first | refine WL.nil ?_ | refine WL.auto (h := ?_) | refine WL.gskip rfl rfl rfl rfl ?_ | refine WL.gauto (h := ?_) | (refine CW.seq ?_; intro K hK) | refine CW.block ?_ | refine CW.region ?_ | refine CW.skip ?_ | refine CW.exit ?_ | refine CW.ret ?_ | (refine thn_ret (K := K) ?_; clear hK K) | refine thn_ret ?_ | refine blk_ret ?_ | (refine thn_exit (K := K) ?_; clear hK K) | refine thn_exit ?_ | refine blk_here ?_ | refine blk_past rfl ?_ | refine thn_norm ?_ | refine blk_norm ?_ | refine CW.condT rfl ?_ | refine CW.condF rfl ?_ | (refine hK _ _ ?_; clear hK K))
  first | refine WL.step rfl ?_ | refine WL.gstep rfl rfl rfl rfl ?_
  refine OpW.call ((Err54 rb _ _ _ hr13).mono ?_) rfl
  rintro v w14 ⟨rfl, hg14⟩
  repeat (first | refine WL.nil ?_ | refine WL.auto (h := ?_) | refine WL.gskip rfl rfl rfl rfl ?_ | refine WL.gauto (h := ?_) | (refine CW.seq ?_; intro K hK) | refine CW.block ?_ | refine CW.region ?_ | refine CW.skip ?_ | refine CW.exit ?_ | refine CW.ret ?_ | (refine thn_ret (K := K) ?_; clear hK K) | refine thn_ret ?_ | refine blk_ret ?_ | (refine thn_exit (K := K) ?_; clear hK K) | refine thn_exit ?_ | refine blk_here ?_ | refine blk_past rfl ?_ | refine thn_norm ?_ | refine blk_norm ?_ | refine CW.condT rfl ?_ | refine CW.condF rfl ?_ | (refine hK _ _ ?_; clear hK K))
  first | refine WL.step rfl ?_ | refine WL.gstep rfl rfl rfl rfl ?_
  refine OpW.call ((Left49 rb _ _ _ (hr13.grow hg14)).mono ?_) rfl
  rintro v w15 ⟨rfl, hg15⟩
  repeat (first | refine WL.nil ?_ | refine WL.auto (h := ?_) | refine WL.gskip rfl rfl rfl rfl ?_ | refine WL.gauto (h := ?_) | (refine CW.seq ?_; intro K hK) | refine CW.block ?_ | refine CW.region ?_ | refine CW.skip ?_ | refine CW.exit ?_ | refine CW.ret ?_ | (refine thn_ret (K := K) ?_; clear hK K) | refine thn_ret ?_ | refine blk_ret ?_ | (refine thn_exit (K := K) ?_; clear hK K) | refine thn_exit ?_ | refine blk_here ?_ | refine blk_past rfl ?_ | refine thn_norm ?_ | refine blk_norm ?_ | refine CW.condT rfl ?_ | refine CW.condF rfl ?_ | (refine hK _ _ ?_; clear hK K))
  refine out1 (v := .bool true) Try.results25 (congrArg Value.bool (by decide)) ⟨rfl, ?_⟩ (Or.inr rfl)
  refine (Grow.chgNew (hn1.grow.then (hg2.then hgA)) hc13 ?_).then (hg14.then hg15)
  rintro i hi rfl
  exact Nat.not_lt.2 (Nat.le_trans hn1.grow.size hrb) hi
end B
end Go.Proofs.Ytlofcomnhecgfaa
