/- Same; Crash of the document's disk. Sizes are bounded. -/
import Derived.Test.YtlofcomnhecgfaaDiskM
namespace Go.Proofs.Ytlofcomnhecgfaa
namespace B
attribute [local irreducible] OpW WL CW Ret Sl Blk thn blk outOf
set_option linter.unusedVariables false
set_option linter.unusedSimpArgs false
set_option maxRecDepth 4000

theorem FilesIn.at_ {w : World} {A : Option Addr} {xs : List (List UInt8 × List UInt8)} {Z : Nat → Prop} (h : FilesIn w A xs Z) {i : Nat} {x : List UInt8 × List UInt8} (hx : xs[i]? = some x) :
    ∃ cells DA cap, Sl w A cells ∧ A ≠ none ∧ (∀ a, A = some a → a.spot = none) ∧ cells[i * 2 + 0]? = some (.string (bstr x.1)) ∧ cells[i * 2 + 1]? = some (.slice DA x.2.length cap) ∧ Sl w DA (bvs x.2) := by
  obtain ⟨cells, h1, h2, h3, h4⟩ := h
  obtain ⟨DA, cap, k1, k2, k3, k4⟩ := h4 i x hx
  have e0 : cells[i * 2 + 0]? = some (.string (bstr x.1)) := part_get (c := 0) k1 rfl
  have hl := (List.getElem?_eq_some_iff.1 e0).1
  exact ⟨cells, DA, cap, h1, sl_ne h1 hl, sl_sp h1 hl, e0, part_get (c := 1) k1 rfl, k2⟩

theorem same37 (A B : Option Addr) (c c' : Nat) (xs ys : List (List UInt8 × List UInt8)) (Z Z' : Nat → Prop) (w : World) (hx : FilesIn w A xs Z) (hy : FilesIn w B ys Z') (hl : xs.length ≤ 1099511627776) (hl' : ys.length ≤ 1099511627776) :
    Ret Try.prog 37 #[.slice A xs.length c, .slice B ys.length c'] w fun v w' => v = .bool (decide (xs = ys)) ∧ Grow w w' := by
  refine Ret.enter (fn := Try.f37) (N := 43) Try.func37 rfl Try.ntmps37 rfl ?_
  repeat (first | refine WL.nil ?_ | refine WL.auto (h := ?_) | refine WL.gskip rfl rfl rfl rfl ?_ | refine WL.gauto (h := ?_) | (refine CW.seq ?_; intro K hK) | refine CW.block ?_ | refine CW.region ?_ | refine CW.skip ?_ | refine CW.exit ?_ | refine CW.ret ?_ | (refine thn_ret (K := K) ?_; clear hK K) | refine thn_ret ?_ | refine blk_ret ?_ | (refine thn_exit (K := K) ?_; clear hK K) | refine thn_exit ?_ | refine blk_here ?_ | refine blk_past rfl ?_ | refine thn_norm ?_ | refine blk_norm ?_ | refine CW.condT rfl ?_ | refine CW.condF rfl ?_ | (refine hK _ _ ?_; clear hK K))
  by_cases hlen : xs.length = ys.length
  · rw [show decide (¬ (xs.length : Int) = (ys.length : Int)) = false from decide_eq_false (by omega)]
    repeat (first | refine WL.nil ?_ | refine WL.auto (h := ?_) | refine WL.gskip rfl rfl rfl rfl ?_ | refine WL.gauto (h := ?_) | (refine CW.seq ?_; intro K hK) | refine CW.block ?_ | refine CW.region ?_ | refine CW.skip ?_ | refine CW.exit ?_ | refine CW.ret ?_ | (refine thn_ret (K := K) ?_; clear hK K) | refine thn_ret ?_ | refine blk_ret ?_ | (refine thn_exit (K := K) ?_; clear hK K) | refine thn_exit ?_ | refine blk_here ?_ | refine blk_past rfl ?_ | refine thn_norm ?_ | refine blk_norm ?_ | refine CW.condT rfl ?_ | refine CW.condF rfl ?_ | (refine hK _ _ ?_; clear hK K))
    refine CW.loop (fun n' e w2 => ∃ k, k ≤ xs.length ∧ n' = xs.length - k ∧ (∀ i, i < k → xs[i]? = ys[i]?) ∧ Grow w w2 ∧ ∃ e0, e = upd (upd (upd (upd e0 0 (.slice A xs.length c)) 1 (.slice B ys.length c')) 12 (.int .i64 xs.length)) 13 (.int .i64 k)) xs.length ?_ ?_
    · exact ⟨0, by omega, rfl, fun i hi => by omega, Chg.refl _ _, rep4 rfl rfl rfl rfl⟩
    rintro n' e w2 ⟨k, hk, rfl, hsame, g2, e0, rfl⟩ KJ hJ
    repeat (first | refine WL.nil ?_ | refine WL.auto (h := ?_) | refine WL.gskip rfl rfl rfl rfl ?_ | refine WL.gauto (h := ?_) | (refine CW.seq ?_; intro K hK) | refine CW.block ?_ | refine CW.region ?_ | refine CW.skip ?_ | refine CW.exit ?_ | refine CW.ret ?_ | (refine thn_ret (K := K) ?_; clear hK K) | refine thn_ret ?_ | refine blk_ret ?_ | (refine thn_exit (K := K) ?_; clear hK K) | refine thn_exit ?_ | refine blk_here ?_ | refine blk_past rfl ?_ | refine thn_norm ?_ | refine blk_norm ?_ | refine CW.condT rfl ?_ | refine CW.condF rfl ?_ | (refine hK _ _ ?_; clear hK K))
    refine CW.condP rfl (fun h3 => ?_) (fun h3 => ?_)
    · have hkl : k < xs.length := by omega
      have hkl' : k < ys.length := by omega
      obtain ⟨cx, DX, capx, x1, x2, x3, x4, x5, x6⟩ := (hx.grow g2).at_ (List.getElem?_eq_getElem hkl)
      obtain ⟨cy, DY, capy, y1, y2, y3, y4, y5, y6⟩ := (hy.grow g2).at_ (List.getElem?_eq_getElem hkl')
      have hxk : xs[k]? = some xs[k] := List.getElem?_eq_getElem hkl
      have hyk : ys[k]? = some ys[k] := List.getElem?_eq_getElem hkl'
      generalize xs[k] = x at *
      generalize ys[k] = y at *
      obtain ⟨n1, b1⟩ := x
      obtain ⟨n2, b2⟩ := y
      simp only at x4 x5 x6 y4 y5 y6
      have hne : ¬ (n1, b1) = (n2, b2) → xs ≠ ys := fun h e => by
        rw [e] at hxk
        rw [hxk] at hyk
        exact h (Option.some.inj hyk)
      repeat (first | refine WL.nil ?_ | refine WL.auto (h := ?_) | refine WL.gskip rfl rfl rfl rfl ?_ | refine WL.gauto (h := ?_) | (refine CW.seq ?_; intro K hK) | refine CW.block ?_ | refine CW.region ?_ | refine CW.skip ?_ | refine CW.exit ?_ | refine CW.ret ?_ | (refine thn_ret (K := K) ?_; clear hK K) | refine thn_ret ?_ | refine blk_ret ?_ | (refine thn_exit (K := K) ?_; clear hK K) | refine thn_exit ?_ | refine blk_here ?_ | refine blk_past rfl ?_ | refine thn_norm ?_ | refine blk_norm ?_ | refine CW.condT rfl ?_ | refine CW.condF rfl ?_ | (refine hK _ _ ?_; clear hK K))
      by_cases e1 : n1 = n2
      · refine CW.quiet rfl (by kernel_rfl) ?_
        repeat (first | refine QL.nil ?_ | refine QL.auto (hn := ?_) | refine QL.gskip rfl rfl rfl rfl ?_ | refine QL.gauto (hn := ?_))
        refine QL.step rfl rfl (fun w hg => OpW.indexAddr k rfl rfl rfl hkl x2 x3 ⟨rfl, rfl⟩) ?_
        repeat (first | refine QL.nil ?_ | refine QL.auto (hn := ?_) | refine QL.gskip rfl rfl rfl rfl ?_ | refine QL.gauto (hn := ?_))
        refine QL.step rfl rfl (fun w hg => OpW.indexAddr k rfl rfl rfl hkl' y2 y3 ⟨rfl, rfl⟩) ?_
        repeat (first | refine QL.nil ?_ | refine QL.auto (hn := ?_) | refine QL.gskip rfl rfl rfl rfl ?_ | refine QL.gauto (hn := ?_))
        rw [show decide (¬ n1 = n2) = false from decide_eq_false (fun h => h e1)]
        repeat (first | refine QL.nil ?_ | refine QL.auto (hn := ?_) | refine QL.gskip rfl rfl rfl rfl ?_ | refine QL.gauto (hn := ?_))
        refine QL.gstep rfl rfl rfl rfl rfl (fun w hg => OpW.indexAddr k rfl rfl rfl hkl x2 x3 ⟨rfl, rfl⟩) ?_
        repeat (first | refine QL.nil ?_ | refine QL.auto (hn := ?_) | refine QL.gskip rfl rfl rfl rfl ?_ | refine QL.gauto (hn := ?_))
        refine QL.gstep rfl rfl rfl rfl rfl (fun w hg => OpW.toStr rfl (x6.grow hg) rfl ⟨rfl, rfl⟩) ?_
        repeat (first | refine QL.nil ?_ | refine QL.auto (hn := ?_) | refine QL.gskip rfl rfl rfl rfl ?_ | refine QL.gauto (hn := ?_))
        refine QL.gstep rfl rfl rfl rfl rfl (fun w hg => OpW.indexAddr k rfl rfl rfl hkl' y2 y3 ⟨rfl, rfl⟩) ?_
        repeat (first | refine QL.nil ?_ | refine QL.auto (hn := ?_) | refine QL.gskip rfl rfl rfl rfl ?_ | refine QL.gauto (hn := ?_))
        refine QL.gstep rfl rfl rfl rfl rfl (fun w hg => OpW.toStr rfl (y6.grow hg) rfl ⟨rfl, rfl⟩) ?_
        repeat (first | refine QL.nil ?_ | refine QL.auto (hn := ?_) | refine QL.gskip rfl rfl rfl rfl ?_ | refine QL.gauto (hn := ?_))
        intro w3 g3
        repeat (first | refine WL.nil ?_ | refine WL.auto (h := ?_) | refine WL.gskip rfl rfl rfl rfl ?_ | refine WL.gauto (h := ?_) | (refine CW.seq ?_; intro K hK) | refine CW.block ?_ | refine CW.region ?_ | refine CW.skip ?_ | refine CW.exit ?_ | refine CW.ret ?_ | (refine thn_ret (K := K) ?_; clear hK K) | refine thn_ret ?_ | refine blk_ret ?_ | (refine thn_exit (K := K) ?_; clear hK K) | refine thn_exit ?_ | refine blk_here ?_ | refine blk_past rfl ?_ | refine thn_norm ?_ | refine blk_norm ?_ | refine CW.condT rfl ?_ | refine CW.condF rfl ?_ | (refine hK _ _ ?_; clear hK K))
        refine CW.condP rfl (fun h4 => ?_) (fun h4 => ?_)
        · repeat (first | refine WL.nil ?_ | refine WL.auto (h := ?_) | refine WL.gskip rfl rfl rfl rfl ?_ | refine WL.gauto (h := ?_) | (refine CW.seq ?_; intro K hK) | refine CW.block ?_ | refine CW.region ?_ | refine CW.skip ?_ | refine CW.exit ?_ | refine CW.ret ?_ | (refine thn_ret (K := K) ?_; clear hK K) | refine thn_ret ?_ | refine blk_ret ?_ | (refine thn_exit (K := K) ?_; clear hK K) | refine thn_exit ?_ | refine blk_here ?_ | refine blk_past rfl ?_ | refine thn_norm ?_ | refine blk_norm ?_ | refine CW.condT rfl ?_ | refine CW.condF rfl ?_ | (refine hK _ _ ?_; clear hK K))
          refine out1 (v := .bool false) Try.results37 rfl ⟨congrArg Value.bool (decide_eq_false (hne fun e => h4 (congrArg Prod.snd e))).symm, g2.then g3⟩ (Or.inr rfl)
        · have e2 : b1 = b2 := by simpa using h4
          repeat (first | refine WL.nil ?_ | refine WL.auto (h := ?_) | refine WL.gskip rfl rfl rfl rfl ?_ | refine WL.gauto (h := ?_) | (refine CW.seq ?_; intro K hK) | refine CW.block ?_ | refine CW.region ?_ | refine CW.skip ?_ | refine CW.exit ?_ | refine CW.ret ?_ | (refine thn_ret (K := K) ?_; clear hK K) | refine thn_ret ?_ | refine blk_ret ?_ | (refine thn_exit (K := K) ?_; clear hK K) | refine thn_exit ?_ | refine blk_here ?_ | refine blk_past rfl ?_ | refine thn_norm ?_ | refine blk_norm ?_ | refine CW.condT rfl ?_ | refine CW.condF rfl ?_ | (refine hK _ _ ?_; clear hK K))
          refine hJ (xs.length - (k + 1)) _ _ (by omega) ⟨k + 1, by omega, rfl, fun i hi => ?_, g2.then g3, rep4 rfl rfl rfl (congrArg (Value.int .i64) (by omega))⟩
          rcases Nat.lt_or_ge i k with h | h
          · exact hsame i h
          · obtain rfl : i = k := by omega
            rw [hxk, hyk, e1, e2]
      · refine CW.quiet rfl (by kernel_rfl) ?_
        repeat (first | refine QL.nil ?_ | refine QL.auto (hn := ?_) | refine QL.gskip rfl rfl rfl rfl ?_ | refine QL.gauto (hn := ?_))
        refine QL.step rfl rfl (fun w hg => OpW.indexAddr k rfl rfl rfl hkl x2 x3 ⟨rfl, rfl⟩) ?_
        repeat (first | refine QL.nil ?_ | refine QL.auto (hn := ?_) | refine QL.gskip rfl rfl rfl rfl ?_ | refine QL.gauto (hn := ?_))
        refine QL.step rfl rfl (fun w hg => OpW.indexAddr k rfl rfl rfl hkl' y2 y3 ⟨rfl, rfl⟩) ?_
        repeat (first | refine QL.nil ?_ | refine QL.auto (hn := ?_) | refine QL.gskip rfl rfl rfl rfl ?_ | refine QL.gauto (hn := ?_))
        rw [show decide (¬ n1 = n2) = true from decide_eq_true e1]
        repeat (first | refine QL.nil ?_ | refine QL.auto (hn := ?_) | refine QL.gskip rfl rfl rfl rfl ?_ | refine QL.gauto (hn := ?_))
        intro w3 g3
        repeat (first | refine WL.nil ?_ | refine WL.auto (h := ?_) | refine WL.gskip rfl rfl rfl rfl ?_ | refine WL.gauto (h := ?_) | (refine CW.seq ?_; intro K hK) | refine CW.block ?_ | refine CW.region ?_ | refine CW.skip ?_ | refine CW.exit ?_ | refine CW.ret ?_ | (refine thn_ret (K := K) ?_; clear hK K) | refine thn_ret ?_ | refine blk_ret ?_ | (refine thn_exit (K := K) ?_; clear hK K) | refine thn_exit ?_ | refine blk_here ?_ | refine blk_past rfl ?_ | refine thn_norm ?_ | refine blk_norm ?_ | refine CW.condT rfl ?_ | refine CW.condF rfl ?_ | (refine hK _ _ ?_; clear hK K))
        refine out1 (v := .bool false) Try.results37 rfl ⟨congrArg Value.bool (decide_eq_false (hne fun e => e1 (congrArg Prod.fst e))).symm, g2.then g3⟩ (Or.inr rfl)
    · obtain rfl : k = xs.length := by omega
      repeat (first | refine WL.nil ?_ | refine WL.auto (h := ?_) | refine WL.gskip rfl rfl rfl rfl ?_ | refine WL.gauto (h := ?_) | (refine CW.seq ?_; intro K hK) | refine CW.block ?_ | refine CW.region ?_ | refine CW.skip ?_ | refine CW.exit ?_ | refine CW.ret ?_ | (refine thn_ret (K := K) ?_; clear hK K) | refine thn_ret ?_ | refine blk_ret ?_ | (refine thn_exit (K := K) ?_; clear hK K) | refine thn_exit ?_ | refine blk_here ?_ | refine blk_past rfl ?_ | refine thn_norm ?_ | refine blk_norm ?_ | refine CW.condT rfl ?_ | refine CW.condF rfl ?_ | (refine hK _ _ ?_; clear hK K))
      refine out1 (v := .bool true) Try.results37 rfl ⟨congrArg Value.bool (decide_eq_true ?_).symm, g2⟩ (Or.inr rfl)
      apply List.ext_getElem?
      intro i
      rcases Nat.lt_or_ge i xs.length with h | h
      · exact hsame i h
      · rw [List.getElem?_eq_none h, List.getElem?_eq_none (by omega)]
  · rw [show decide (¬ (xs.length : Int) = (ys.length : Int)) = true from decide_eq_true (by omega)]
    repeat (first | refine WL.nil ?_ | refine WL.auto (h := ?_) | refine WL.gskip rfl rfl rfl rfl ?_ | refine WL.gauto (h := ?_) | (refine CW.seq ?_; intro K hK) | refine CW.block ?_ | refine CW.region ?_ | refine CW.skip ?_ | refine CW.exit ?_ | refine CW.ret ?_ | (refine thn_ret (K := K) ?_; clear hK K) | refine thn_ret ?_ | refine blk_ret ?_ | (refine thn_exit (K := K) ?_; clear hK K) | refine thn_exit ?_ | refine blk_here ?_ | refine blk_past rfl ?_ | refine thn_norm ?_ | refine blk_norm ?_ | refine CW.condT rfl ?_ | refine CW.condF rfl ?_ | (refine hK _ _ ?_; clear hK K))
    exact out1 (v := .bool false) Try.results37 rfl ⟨congrArg Value.bool (decide_eq_false fun e => hlen (by rw [e])).symm, Chg.refl _ _⟩ (Or.inr rfl)
end B
end Go.Proofs.Ytlofcomnhecgfaa
