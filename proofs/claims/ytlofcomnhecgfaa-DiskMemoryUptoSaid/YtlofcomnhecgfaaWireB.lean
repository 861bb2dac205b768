/- What wire.N, B, T, F and the document's N, B, F put. Sizes are bounded. -/
import Derived.Test.YtlofcomnhecgfaaWireA
namespace Go.Proofs.Ytlofcomnhecgfaa
namespace B
attribute [local irreducible] OpW WL CW Ret Sl Blk thn blk outOf
set_option linter.unusedVariables false
set_option linter.unusedSimpArgs false

theorem blk_sl_lit {w w' : World} {b E : Nat} {vs : List Value} (h : New w w' b (.cells vs.toArray E)) : Sl w' (some ⟨b, 0, none⟩) vs :=
  Blk.slAll (E := E) h.blk vs (by simp)

/-- b, then bytes that are new. -/
theorem concat_two {A A2 : Option Addr} {cap cap2 : Nat} {l m : List UInt8} {w w0 : World} {b : Nat} (hs : Sl w0 A (bvs l)) (hs2 : Sl w0 A2 (bvs m)) (hn : New w0 w b (.cells #[Value.slice A l.length cap, .slice A2 m.length cap2] 22)) (hl : l.length + m.length ≤ 70368744177664) :
    Ret Try.prog 69 #[.slice (some ⟨b, 0, none⟩) 2 2] w fun v w' => NewBytes w w' v (l ++ m) := by
  have h := concat69 (some ⟨b, 0, none⟩) 2 [(A, cap, l), (A2, cap2, m)] w (by simpa [slv] using blk_sl_lit (vs := [Value.slice A l.length cap, .slice A2 m.length cap2]) hn) (by
    intro x hx
    simp only [List.mem_cons, List.not_mem_nil, or_false] at hx
    rcases hx with rfl | rfl
    · exact hs.grow hn.grow
    · exact hs2.grow hn.grow) (by simp) (by simpa [flat] using hl)
  simpa [flat] using h
theorem concat_three {A A2 A3 : Option Addr} {cap cap2 cap3 : Nat} {l m k : List UInt8} {w w0 : World} {b : Nat} (hs : Sl w0 A (bvs l)) (hs2 : Sl w0 A2 (bvs m)) (hs3 : Sl w0 A3 (bvs k)) (hn : New w0 w b (.cells #[Value.slice A l.length cap, .slice A2 m.length cap2, .slice A3 k.length cap3] 22)) (hl : l.length + (m.length + k.length) ≤ 70368744177664) :
    Ret Try.prog 69 #[.slice (some ⟨b, 0, none⟩) 3 3] w fun v w' => NewBytes w w' v (l ++ (m ++ k)) := by
  have h := concat69 (some ⟨b, 0, none⟩) 3 [(A, cap, l), (A2, cap2, m), (A3, cap3, k)] w (by simpa [slv] using blk_sl_lit (vs := [Value.slice A l.length cap, .slice A2 m.length cap2, .slice A3 k.length cap3]) hn) (by
    intro x hx
    simp only [List.mem_cons, List.not_mem_nil, or_false] at hx
    rcases hx with rfl | rfl | rfl
    · exact hs.grow hn.grow
    · exact hs2.grow hn.grow
    · exact hs3.grow hn.grow) (by simp) (by simpa [flat] using hl)
  simpa [flat] using h

theorem F24 (A : Option Addr) (cap : Nat) (l : List UInt8) (y : Bool) (w : World) (hs : Sl w A (bvs l)) (hl : l.length ≤ 1099511627776) : Ret Try.prog 24 #[.slice A l.length cap, .bool y] w fun v w' => NewBytes w w' v (putF l y) := by
  refine Ret.enter (fn := Try.f24) (N := 14) Try.func24 rfl Try.ntmps24 rfl ?_
  repeat (first | refine WL.nil ?_ | refine WL.auto (h := ?_) | refine WL.gskip rfl rfl rfl rfl ?_ | refine WL.gauto (h := ?_) | (refine CW.seq ?_; intro K hK) | refine CW.block ?_ | refine CW.region ?_ | refine CW.skip ?_ | refine CW.exit ?_ | refine CW.ret ?_ | (refine thn_ret (K := K) ?_; clear hK K) | refine thn_ret ?_ | refine blk_ret ?_ | (refine thn_exit (K := K) ?_; clear hK K) | refine thn_exit ?_ | refine blk_here ?_ | refine blk_past rfl ?_ | refine thn_norm ?_ | refine blk_norm ?_ | refine CW.condT rfl ?_ | refine CW.condF rfl ?_ | (refine hK _ _ ?_; clear hK K))
  refine CW.cond rfl (fun h1 => ?_) (fun h1 => ?_)
  all_goals
    subst h1
    repeat (first | refine WL.nil ?_ | refine WL.auto (h := ?_) | refine WL.gskip rfl rfl rfl rfl ?_ | refine WL.gauto (h := ?_) | (refine CW.seq ?_; intro K hK) | refine CW.block ?_ | refine CW.region ?_ | refine CW.skip ?_ | refine CW.exit ?_ | refine CW.ret ?_ | (refine thn_ret (K := K) ?_; clear hK K) | refine thn_ret ?_ | refine blk_ret ?_ | (refine thn_exit (K := K) ?_; clear hK K) | refine thn_exit ?_ | refine blk_here ?_ | refine blk_past rfl ?_ | refine thn_norm ?_ | refine blk_norm ?_ | refine CW.condT rfl ?_ | refine CW.condF rfl ?_ | (refine hK _ _ ?_; clear hK K))
    refine WL.step rfl ?_
    refine OpW.buildLit [_] rfl rfl rfl (by intro v hv; simp only [List.mem_cons, List.not_mem_nil, or_false] at hv; subst hv; rfl) ?_
    intro b1 w1 hn1
    refine WL.step rfl ?_
    refine OpW.buildLit [_, _] rfl rfl rfl (by intro v hv; simp only [List.mem_cons, List.not_mem_nil, or_false] at hv; rcases hv with rfl | rfl <;> rfl) ?_
    intro b2 w2 hn2
    refine WL.step rfl ?_
    first
      | refine OpW.call ((concat_two (hs.grow hn1.grow) (m := [1]) (blk_sl_lit hn1) hn2 (by simp; omega)).mono ?_) rfl
      | refine OpW.call ((concat_two (hs.grow hn1.grow) (m := [0]) (blk_sl_lit hn1) hn2 (by simp; omega)).mono ?_) rfl
    rintro v w3 hv
    obtain ⟨A', cap', rfl, ho, hg⟩ := hv
    repeat (first | refine WL.nil ?_ | refine WL.auto (h := ?_) | refine WL.gskip rfl rfl rfl rfl ?_ | refine WL.gauto (h := ?_) | (refine CW.seq ?_; intro K hK) | refine CW.block ?_ | refine CW.region ?_ | refine CW.skip ?_ | refine CW.exit ?_ | refine CW.ret ?_ | (refine thn_ret (K := K) ?_; clear hK K) | refine thn_ret ?_ | refine blk_ret ?_ | (refine thn_exit (K := K) ?_; clear hK K) | refine thn_exit ?_ | refine blk_here ?_ | refine blk_past rfl ?_ | refine thn_norm ?_ | refine blk_norm ?_ | refine CW.condT rfl ?_ | refine CW.condF rfl ?_ | (refine hK _ _ ?_; clear hK K))
    refine out1 Try.results24 rfl ?_ (Or.inr rfl)
    exact NewBytes.from_ ⟨_, _, rfl, ho, hg⟩ (hn1.grow.then hn2.grow)

theorem N21 (A : Option Addr) (cap : Nat) (l : List UInt8) (n : Nat) (w : World) (hs : Sl w A (bvs l)) (hl : l.length ≤ 1099511627776) : Ret Try.prog 21 #[.slice A l.length cap, .int .u64 (n : Int)] w fun v w' => NewBytes w w' v (putN l n) := by
  refine Ret.enter (fn := Try.f21) (N := 32) Try.func21 rfl Try.ntmps21 rfl ?_
  repeat (first | refine WL.nil ?_ | refine WL.auto (h := ?_) | refine WL.gskip rfl rfl rfl rfl ?_ | refine WL.gauto (h := ?_) | (refine CW.seq ?_; intro K hK) | refine CW.block ?_ | refine CW.region ?_ | refine CW.skip ?_ | refine CW.exit ?_ | refine CW.ret ?_ | (refine thn_ret (K := K) ?_; clear hK K) | refine thn_ret ?_ | refine blk_ret ?_ | (refine thn_exit (K := K) ?_; clear hK K) | refine thn_exit ?_ | refine blk_here ?_ | refine blk_past rfl ?_ | refine thn_norm ?_ | refine blk_norm ?_ | refine CW.condT rfl ?_ | refine CW.condF rfl ?_ | (refine hK _ _ ?_; clear hK K))
  iterate 7
    refine WL.step rfl ?_
    first
      | refine OpW.shrN 56 rfl rfl rfl (by decide) ?_
      | refine OpW.shrN 48 rfl rfl rfl (by decide) ?_
      | refine OpW.shrN 40 rfl rfl rfl (by decide) ?_
      | refine OpW.shrN 32 rfl rfl rfl (by decide) ?_
      | refine OpW.shrN 24 rfl rfl rfl (by decide) ?_
      | refine OpW.shrN 16 rfl rfl rfl (by decide) ?_
      | refine OpW.shrN 8 rfl rfl rfl (by decide) ?_
    repeat (first | refine WL.nil ?_ | refine WL.auto (h := ?_) | refine WL.gskip rfl rfl rfl rfl ?_ | refine WL.gauto (h := ?_) | (refine CW.seq ?_; intro K hK) | refine CW.block ?_ | refine CW.region ?_ | refine CW.skip ?_ | refine CW.exit ?_ | refine CW.ret ?_ | (refine thn_ret (K := K) ?_; clear hK K) | refine thn_ret ?_ | refine blk_ret ?_ | (refine thn_exit (K := K) ?_; clear hK K) | refine thn_exit ?_ | refine blk_here ?_ | refine blk_past rfl ?_ | refine thn_norm ?_ | refine blk_norm ?_ | refine CW.condT rfl ?_ | refine CW.condF rfl ?_ | (refine hK _ _ ?_; clear hK K))
  refine WL.step rfl ?_
  refine OpW.buildLit [_, _, _, _, _, _, _, _] rfl rfl rfl (by intro v hv; simp only [List.mem_cons, List.not_mem_nil, or_false] at hv; rcases hv with rfl | rfl | rfl | rfl | rfl | rfl | rfl | rfl <;> rfl) ?_
  intro b1 w1 hn1
  refine WL.step rfl ?_
  refine OpW.buildLit [_, _] rfl rfl rfl (by intro v hv; simp only [List.mem_cons, List.not_mem_nil, or_false] at hv; rcases hv with rfl | rfl <;> rfl) ?_
  intro b2 w2 hn2
  refine WL.step rfl ?_
  refine OpW.call ((concat_two (hs.grow hn1.grow) (m := beN n) (blk_sl_lit hn1) hn2 (by simp [beN]; omega)).mono ?_) rfl
  rintro v w3 ⟨A', cap', rfl, ho, hg⟩
  repeat (first | refine WL.nil ?_ | refine WL.auto (h := ?_) | refine WL.gskip rfl rfl rfl rfl ?_ | refine WL.gauto (h := ?_) | (refine CW.seq ?_; intro K hK) | refine CW.block ?_ | refine CW.region ?_ | refine CW.skip ?_ | refine CW.exit ?_ | refine CW.ret ?_ | (refine thn_ret (K := K) ?_; clear hK K) | refine thn_ret ?_ | refine blk_ret ?_ | (refine thn_exit (K := K) ?_; clear hK K) | refine thn_exit ?_ | refine blk_here ?_ | refine blk_past rfl ?_ | refine thn_norm ?_ | refine blk_norm ?_ | refine CW.condT rfl ?_ | refine CW.condF rfl ?_ | (refine hK _ _ ?_; clear hK K))
  refine out1 Try.results21 rfl ?_ (Or.inr rfl)
  exact NewBytes.from_ ⟨_, _, rfl, ho, hg⟩ (hn1.grow.then hn2.grow)

theorem B22 (A A2 : Option Addr) (cap cap2 : Nat) (l x : List UInt8) (w : World) (hs : Sl w A (bvs l)) (hx : Sl w A2 (bvs x)) (hl : l.length ≤ 1099511627776) (hc : x.length ≤ cap2) (hm : x.length ≤ 1099511627776) : Ret Try.prog 22 #[.slice A l.length cap, .slice A2 x.length cap2] w fun v w' => NewBytes w w' v (putB l x) := by
  refine Ret.enter (fn := Try.f22) (N := 22) Try.func22 rfl Try.ntmps22 rfl ?_
  have hfl := fld_length x
  have hmin : (if (65535 : Int) < (x.length : Int) then (65535 : Int) else (x.length : Int)) = ((fld x).length : Int) := by
    rw [hfl]; split <;> omega
  repeat (first | refine WL.nil ?_ | refine WL.auto (h := ?_) | refine WL.gskip rfl rfl rfl rfl ?_ | refine WL.gauto (h := ?_) | (refine CW.seq ?_; intro K hK) | refine CW.block ?_ | refine CW.region ?_ | refine CW.skip ?_ | refine CW.exit ?_ | refine CW.ret ?_ | (refine thn_ret (K := K) ?_; clear hK K) | refine thn_ret ?_ | refine blk_ret ?_ | (refine thn_exit (K := K) ?_; clear hK K) | refine thn_exit ?_ | refine blk_here ?_ | refine blk_past rfl ?_ | refine thn_norm ?_ | refine blk_norm ?_ | refine CW.condT rfl ?_ | refine CW.condF rfl ?_ | (refine hK _ _ ?_; clear hK K))
  rw [hmin]
  refine WL.step rfl ?_
  refine OpW.sliceHi (fld x).length rfl rfl rfl (by omega) ?_
  repeat (first | refine WL.nil ?_ | refine WL.auto (h := ?_) | refine WL.gskip rfl rfl rfl rfl ?_ | refine WL.gauto (h := ?_) | (refine CW.seq ?_; intro K hK) | refine CW.block ?_ | refine CW.region ?_ | refine CW.skip ?_ | refine CW.exit ?_ | refine CW.ret ?_ | (refine thn_ret (K := K) ?_; clear hK K) | refine thn_ret ?_ | refine blk_ret ?_ | (refine thn_exit (K := K) ?_; clear hK K) | refine thn_exit ?_ | refine blk_here ?_ | refine blk_past rfl ?_ | refine thn_norm ?_ | refine blk_norm ?_ | refine CW.condT rfl ?_ | refine CW.condF rfl ?_ | (refine hK _ _ ?_; clear hK K))
  refine WL.step rfl ?_
  refine OpW.shrN 8 rfl rfl rfl (by decide) ?_
  repeat (first | refine WL.nil ?_ | refine WL.auto (h := ?_) | refine WL.gskip rfl rfl rfl rfl ?_ | refine WL.gauto (h := ?_) | (refine CW.seq ?_; intro K hK) | refine CW.block ?_ | refine CW.region ?_ | refine CW.skip ?_ | refine CW.exit ?_ | refine CW.ret ?_ | (refine thn_ret (K := K) ?_; clear hK K) | refine thn_ret ?_ | refine blk_ret ?_ | (refine thn_exit (K := K) ?_; clear hK K) | refine thn_exit ?_ | refine blk_here ?_ | refine blk_past rfl ?_ | refine thn_norm ?_ | refine blk_norm ?_ | refine CW.condT rfl ?_ | refine CW.condF rfl ?_ | (refine hK _ _ ?_; clear hK K))
  refine WL.step rfl ?_
  refine OpW.buildLit [_, _, _, _] rfl rfl rfl (by intro v hv; simp only [List.mem_cons, List.not_mem_nil, or_false] at hv; rcases hv with rfl | rfl | rfl | rfl <;> rfl) ?_
  intro b1 w1 hn1
  repeat (first | refine WL.nil ?_ | refine WL.auto (h := ?_) | refine WL.gskip rfl rfl rfl rfl ?_ | refine WL.gauto (h := ?_) | (refine CW.seq ?_; intro K hK) | refine CW.block ?_ | refine CW.region ?_ | refine CW.skip ?_ | refine CW.exit ?_ | refine CW.ret ?_ | (refine thn_ret (K := K) ?_; clear hK K) | refine thn_ret ?_ | refine blk_ret ?_ | (refine thn_exit (K := K) ?_; clear hK K) | refine thn_exit ?_ | refine blk_here ?_ | refine blk_past rfl ?_ | refine thn_norm ?_ | refine blk_norm ?_ | refine CW.condT rfl ?_ | refine CW.condF rfl ?_ | (refine hK _ _ ?_; clear hK K))
  refine WL.step rfl ?_
  refine OpW.buildLit [_, _, _] rfl rfl rfl (by intro v hv; simp only [List.mem_cons, List.not_mem_nil, or_false] at hv; rcases hv with rfl | rfl | rfl <;> rfl) ?_
  intro b2 w2 hn2
  have hx' : Sl w A2 (bvs (fld x)) := by rw [fld, ← bvs_take]; exact hx.take _
  refine WL.step rfl ?_
  refine OpW.call ((concat_three (hs.grow hn1.grow) (m := be4 (fld x).length) (blk_sl_lit hn1) (hx'.grow hn1.grow) hn2 (by rw [be4_length]; omega)).mono ?_) rfl
  rintro v w3 ⟨A', cap', rfl, ho, hg⟩
  repeat (first | refine WL.nil ?_ | refine WL.auto (h := ?_) | refine WL.gskip rfl rfl rfl rfl ?_ | refine WL.gauto (h := ?_) | (refine CW.seq ?_; intro K hK) | refine CW.block ?_ | refine CW.region ?_ | refine CW.skip ?_ | refine CW.exit ?_ | refine CW.ret ?_ | (refine thn_ret (K := K) ?_; clear hK K) | refine thn_ret ?_ | refine blk_ret ?_ | (refine thn_exit (K := K) ?_; clear hK K) | refine thn_exit ?_ | refine blk_here ?_ | refine blk_past rfl ?_ | refine thn_norm ?_ | refine blk_norm ?_ | refine CW.condT rfl ?_ | refine CW.condF rfl ?_ | (refine hK _ _ ?_; clear hK K))
  refine out1 Try.results22 rfl ?_ (Or.inr rfl)
  exact NewBytes.from_ ⟨_, _, rfl, ho, hg⟩ (hn1.grow.then hn2.grow)

theorem T23 (A : Option Addr) (cap : Nat) (l x : List UInt8) (w : World) (hs : Sl w A (bvs l)) (hl : l.length ≤ 1099511627776) (hm : x.length ≤ 1099511627776) : Ret Try.prog 23 #[.slice A l.length cap, .string (bstr x)] w fun v w' => NewBytes w w' v (putB l x) := by
  refine Ret.enter (fn := Try.f23) (N := 9) Try.func23 rfl Try.ntmps23 rfl ?_
  repeat (first | refine WL.nil ?_ | refine WL.auto (h := ?_) | refine WL.gskip rfl rfl rfl rfl ?_ | refine WL.gauto (h := ?_) | (refine CW.seq ?_; intro K hK) | refine CW.block ?_ | refine CW.region ?_ | refine CW.skip ?_ | refine CW.exit ?_ | refine CW.ret ?_ | (refine thn_ret (K := K) ?_; clear hK K) | refine thn_ret ?_ | refine blk_ret ?_ | (refine thn_exit (K := K) ?_; clear hK K) | refine thn_exit ?_ | refine blk_here ?_ | refine blk_past rfl ?_ | refine thn_norm ?_ | refine blk_norm ?_ | refine CW.condT rfl ?_ | refine CW.condF rfl ?_ | (refine hK _ _ ?_; clear hK K))
  refine WL.step rfl ?_
  refine OpW.toBytes rfl ?_
  intro b c w1 hg hb _ hs1 hc
  refine WL.step rfl ?_
  refine OpW.call ((B22 _ _ _ _ _ _ _ (hs.grow hg) hs1 hl hc hm).mono ?_) rfl
  rintro v w3 ⟨A', cap', rfl, ho, hg3⟩
  repeat (first | refine WL.nil ?_ | refine WL.auto (h := ?_) | refine WL.gskip rfl rfl rfl rfl ?_ | refine WL.gauto (h := ?_) | (refine CW.seq ?_; intro K hK) | refine CW.block ?_ | refine CW.region ?_ | refine CW.skip ?_ | refine CW.exit ?_ | refine CW.ret ?_ | (refine thn_ret (K := K) ?_; clear hK K) | refine thn_ret ?_ | refine blk_ret ?_ | (refine thn_exit (K := K) ?_; clear hK K) | refine thn_exit ?_ | refine blk_here ?_ | refine blk_past rfl ?_ | refine thn_norm ?_ | refine blk_norm ?_ | refine CW.condT rfl ?_ | refine CW.condF rfl ?_ | (refine hK _ _ ?_; clear hK K))
  refine out1 Try.results23 rfl ?_ (Or.inr rfl)
  exact NewBytes.from_ ⟨_, _, rfl, ho, hg3⟩ hg
end B
end Go.Proofs.Ytlofcomnhecgfaa
