/- Append, Sync, Truncate, Read of the document's disk. Sizes are bounded. -/
import Derived.Test.YtlofcomnhecgfaaDiskK
namespace Go.Proofs.Ytlofcomnhecgfaa
namespace B
attribute [local irreducible] OpW WL CW Ret Sl Blk thn blk outOf
set_option linter.unusedVariables false
set_option linter.unusedSimpArgs false
set_option maxRecDepth 4000

theorem begin_off {d : PD} (h : d.off = true) : d.begin = (false, 51, d) := by unfold PD.begin; rw [if_pos h]
theorem ixInt_neg {o : Option Nat} : decide (ixInt o < 0) = o.isNone := by
  cases o with
  | none => rfl
  | some i => exact decide_eq_false (by show ¬ ((i : Int) < 0); omega)
theorem ix_get {d : PD} {s : List UInt8} {i : Nat} (h : d.ix s = some i) : ∃ f, d.files[i]? = some f ∧ f.name = s := by
  unfold PD.ix at h
  rw [List.findIdx?_eq_some_iff_getElem] at h
  obtain ⟨hl, h1, _⟩ := h
  exact ⟨_, List.getElem?_eq_getElem hl, by simpa using h1⟩

theorem rsync84 (tag : Nat → Tag) (mb : Nat) (RA : Option Addr) (rcap : Nat) (cells : List Value) (d : PD) (s : List UInt8) (w : World) (h : RefAt tag w mb RA rcap cells d) (ha : d.armed ≤ 9223372036854775807) (hn : d.files.length ≤ 16) :
    Ret Try.prog 84 #[.pointer (some ⟨mb, 0, none⟩), .string (bstr s)] w fun v w' => v = .int .i64 (d.sync s).1 ∧ RefRep tag w' mb (d.sync s).2 ∧ Chg (fun b => (tag b).ref = true) w w' := by
  have hb := h.blk
  refine Ret.enter (fn := Try.f84) (N := 35) Try.func84 rfl Try.ntmps84 rfl ?_
  repeat (first | refine WL.nil ?_ | refine WL.auto (h := ?_) | refine WL.gskip rfl rfl rfl rfl ?_ | refine WL.gauto (h := ?_) | (refine CW.seq ?_; intro K hK) | refine CW.block ?_ | refine CW.region ?_ | refine CW.skip ?_ | refine CW.exit ?_ | refine CW.ret ?_ | (refine thn_ret (K := K) ?_; clear hK K) | refine thn_ret ?_ | refine blk_ret ?_ | (refine thn_exit (K := K) ?_; clear hK K) | refine thn_exit ?_ | refine blk_here ?_ | refine blk_past rfl ?_ | refine thn_norm ?_ | refine blk_norm ?_ | refine CW.condT rfl ?_ | refine CW.condF rfl ?_ | (refine hK _ _ ?_; clear hK K))
  cases ho : d.off with
  | true =>
    have e1 : d.sync s = (51, d) := by unfold PD.sync; rw [begin_off ho]; rfl
    repeat (first | refine WL.nil ?_ | refine WL.auto (h := ?_) | refine WL.gskip rfl rfl rfl rfl ?_ | refine WL.gskipU rfl rfl rfl rfl ?_ | refine WL.gauto (h := ?_) | (refine CW.seq ?_; intro K hK) | refine CW.block ?_ | refine CW.region ?_ | refine CW.skip ?_ | refine CW.exit ?_ | refine CW.ret ?_ | (refine thn_ret (K := K) ?_; clear hK K) | refine thn_ret ?_ | refine blk_ret ?_ | (refine thn_exit (K := K) ?_; clear hK K) | refine thn_exit ?_ | refine blk_here ?_ | refine blk_past rfl ?_ | refine thn_norm ?_ | refine blk_norm ?_ | refine CW.condT rfl ?_ | refine CW.condF rfl ?_ | (refine hK _ _ ?_; clear hK K))
    refine out1 (v := .int .i64 51) Try.results84 rfl ?_ (Or.inr rfl)
    rw [e1]
    exact ⟨rfl, ⟨_, _, _, h⟩, Chg.refl _ _⟩
  | false =>
    repeat (first | refine WL.nil ?_ | refine WL.auto (h := ?_) | refine WL.gskip rfl rfl rfl rfl ?_ | refine WL.gskipU rfl rfl rfl rfl ?_ | refine WL.gauto (h := ?_) | (refine CW.seq ?_; intro K hK) | refine CW.block ?_ | refine CW.region ?_ | refine CW.skip ?_ | refine CW.exit ?_ | refine CW.ret ?_ | (refine thn_ret (K := K) ?_; clear hK K) | refine thn_ret ?_ | refine blk_ret ?_ | (refine thn_exit (K := K) ?_; clear hK K) | refine thn_exit ?_ | refine blk_here ?_ | refine blk_past rfl ?_ | refine thn_norm ?_ | refine blk_norm ?_ | refine CW.condT rfl ?_ | refine CW.condF rfl ?_ | (refine hK _ _ ?_; clear hK K))
    first | refine WL.step rfl ?_ | refine WL.gstep rfl rfl rfl rfl ?_
    refine OpW.call ((goes102 tag mb RA rcap cells d w h ha ho).mono ?_) rfl
    rintro v w1 ⟨rfl, k1, k2, h1, c1⟩
    have hf1 := begin_files d
    have t1 := h.toRef c1
    generalize hbg : d.begin = r at *
    obtain ⟨dn, e, d1⟩ := r
    simp only at h1 hf1 k1 k2
    rcases k2 with rfl | rfl
    · repeat (first | refine WL.nil ?_ | refine WL.auto (h := ?_) | refine WL.gskip rfl rfl rfl rfl ?_ | refine WL.gskipU rfl rfl rfl rfl ?_ | refine WL.gauto (h := ?_) | (refine CW.seq ?_; intro K hK) | refine CW.block ?_ | refine CW.region ?_ | refine CW.skip ?_ | refine CW.exit ?_ | refine CW.ret ?_ | (refine thn_ret (K := K) ?_; clear hK K) | refine thn_ret ?_ | refine blk_ret ?_ | (refine thn_exit (K := K) ?_; clear hK K) | refine thn_exit ?_ | refine blk_here ?_ | refine blk_past rfl ?_ | refine thn_norm ?_ | refine blk_norm ?_ | refine CW.condT rfl ?_ | refine CW.condF rfl ?_ | (refine hK _ _ ?_; clear hK K))
      first | refine WL.step rfl ?_ | refine WL.gstep rfl rfl rfl rfl ?_
      refine OpW.call ((find75 tag mb RA rcap cells d1 s w1 h1 (by rw [hf1]; omega)).mono ?_) rfl
      rintro v w2 ⟨g2, rfl⟩
      have h2 := h1.grow g2
      have hb2 := h2.blk
      repeat (first | refine WL.nil ?_ | refine WL.auto (h := ?_) | refine WL.gskip rfl rfl rfl rfl ?_ | refine WL.gskipU rfl rfl rfl rfl ?_ | refine WL.gauto (h := ?_) | (refine CW.seq ?_; intro K hK) | refine CW.block ?_ | refine CW.region ?_ | refine CW.skip ?_ | refine CW.exit ?_ | refine CW.ret ?_ | (refine thn_ret (K := K) ?_; clear hK K) | refine thn_ret ?_ | refine blk_ret ?_ | (refine thn_exit (K := K) ?_; clear hK K) | refine thn_exit ?_ | refine blk_here ?_ | refine blk_past rfl ?_ | refine thn_norm ?_ | refine blk_norm ?_ | refine CW.condT rfl ?_ | refine CW.condF rfl ?_ | (refine hK _ _ ?_; clear hK K))
      rw [ixInt_neg]
      cases hx : d1.ix s with
      | none =>
        have e1 : d.sync s = (50, d1) := by unfold PD.sync; rw [hbg]; simp only; rw [if_neg (by simp), hx]
        repeat (first | refine WL.nil ?_ | refine WL.auto (h := ?_) | refine WL.gskip rfl rfl rfl rfl ?_ | refine WL.gskipU rfl rfl rfl rfl ?_ | refine WL.gauto (h := ?_) | (refine CW.seq ?_; intro K hK) | refine CW.block ?_ | refine CW.region ?_ | refine CW.skip ?_ | refine CW.exit ?_ | refine CW.ret ?_ | (refine thn_ret (K := K) ?_; clear hK K) | refine thn_ret ?_ | refine blk_ret ?_ | (refine thn_exit (K := K) ?_; clear hK K) | refine thn_exit ?_ | refine blk_here ?_ | refine blk_past rfl ?_ | refine thn_norm ?_ | refine blk_norm ?_ | refine CW.condT rfl ?_ | refine CW.condF rfl ?_ | (refine hK _ _ ?_; clear hK K))
        refine out1 (v := .int .i64 50) Try.results84 rfl ?_ (Or.inr rfl)
        rw [e1]
        exact ⟨rfl, ⟨_, _, _, h2⟩, t1.grow g2⟩
      | some i =>
        obtain ⟨f, hi, hname⟩ := ix_get hx
        have e1 : d.sync s = (0, { d1 with files := d1.files.set i { f with safe := f.data.length } }) := by
          unfold PD.sync; rw [hbg]; simp only; rw [if_neg (by simp), hx]
          show ((0 : Int), ({ d1 with files := d1.files.modify i fun f => { f with safe := f.data.length } } : PD)) = _
          rw [modify_set hi]
        obtain ⟨DA, cap, q0, q1, q2, q3, q4, q5, q6⟩ := h2.at_ hi
        have hsl := h2.own.sl
        have hil := (List.getElem?_eq_some_iff.1 hi).1
        repeat (first | refine WL.nil ?_ | refine WL.auto (h := ?_) | refine WL.gskip rfl rfl rfl rfl ?_ | refine WL.gskipU rfl rfl rfl rfl ?_ | refine WL.gauto (h := ?_) | (refine CW.seq ?_; intro K hK) | refine CW.block ?_ | refine CW.region ?_ | refine CW.skip ?_ | refine CW.exit ?_ | refine CW.ret ?_ | (refine thn_ret (K := K) ?_; clear hK K) | refine thn_ret ?_ | refine blk_ret ?_ | (refine thn_exit (K := K) ?_; clear hK K) | refine thn_exit ?_ | refine blk_here ?_ | refine blk_past rfl ?_ | refine thn_norm ?_ | refine blk_norm ?_ | refine CW.condT rfl ?_ | refine CW.condF rfl ?_ | (refine hK _ _ ?_; clear hK K))
        refine CW.held2 16 (fun _ => False) (fun b => ∃ a, RA = some a ∧ a.block = b) (.take 0 (.take 1 (.take 2 (.take 3 (.take 4 (.take 5 (.take 6 (.take 7 (.take 8 (.take 9 (.take 10 (.take 11 (.take 12 (.take 13 (.take 14 (.take 15 (.one 16 .nil))))))))))))))))) (fun _ h => h.elim) rfl (by kernel_rfl) (by kernel_rfl) (fun w3 g3 => ?_)
        repeat (first | refine AL2.autoU (hn := ?_) | refine AL2.auto (hn := ?_) | refine AL2.gskip rfl rfl rfl rfl rfl ?_ | refine AL2.goneSkip rfl rfl rfl rfl rfl rfl ?_ | refine AL2.gskipU rfl rfl rfl rfl rfl ?_ | refine AL2.goneSkipU rfl rfl rfl rfl rfl rfl ?_ | refine AL2.gautoU (hn := ?_) | refine AL2.gauto (hn := ?_) | refine AL2.oauto (hn := ?_))
        refine AL2.takeU rfl rfl rfl (fun w hg => OpW.indexAddr i rfl rfl rfl hil q4 q5 ⟨rfl, rfl⟩) ?_
        repeat (first | refine AL2.autoU (hn := ?_) | refine AL2.auto (hn := ?_) | refine AL2.gskip rfl rfl rfl rfl rfl ?_ | refine AL2.goneSkip rfl rfl rfl rfl rfl rfl ?_ | refine AL2.gskipU rfl rfl rfl rfl rfl ?_ | refine AL2.goneSkipU rfl rfl rfl rfl rfl rfl ?_ | refine AL2.gautoU (hn := ?_) | refine AL2.gauto (hn := ?_) | refine AL2.oauto (hn := ?_))
        refine AL2.takeU rfl rfl rfl (fun w hg => OpW.indexAddr i rfl rfl rfl hil q4 q5 ⟨rfl, rfl⟩) ?_
        repeat (first | refine AL2.autoU (hn := ?_) | refine AL2.auto (hn := ?_) | refine AL2.gskip rfl rfl rfl rfl rfl ?_ | refine AL2.goneSkip rfl rfl rfl rfl rfl rfl ?_ | refine AL2.gskipU rfl rfl rfl rfl rfl ?_ | refine AL2.goneSkipU rfl rfl rfl rfl rfl rfl ?_ | refine AL2.gautoU (hn := ?_) | refine AL2.gauto (hn := ?_) | refine AL2.oauto (hn := ?_))
        refine AL2.last0 rfl rfl ?_
        refine OpW.storeOwnK (q := i * 3 + 2) (v := .int .i64 f.data.length) rfl rfl rfl (h2.own.grow g3) (by omega) (fun w4 o4 c4 _ => ⟨fun h => (h.mono fun k _ hk => hk.elim).andThen c4, ?_⟩)
        repeat (first | refine AL.nil ?_ | refine AL.auto (hn := ?_) | refine AL.gskip rfl rfl rfl rfl rfl ?_ | refine AL.goneSkip rfl rfl rfl rfl rfl ?_ | refine AL.gauto (hn := ?_) | refine AL.oauto (hn := ?_))
        repeat (first | refine WL.nil ?_ | refine WL.auto (h := ?_) | refine WL.gskip rfl rfl rfl rfl ?_ | refine WL.gauto (h := ?_) | (refine CW.seq ?_; intro K hK) | refine CW.block ?_ | refine CW.region ?_ | refine CW.skip ?_ | refine CW.exit ?_ | refine CW.ret ?_ | (refine thn_ret (K := K) ?_; clear hK K) | refine thn_ret ?_ | refine blk_ret ?_ | (refine thn_exit (K := K) ?_; clear hK K) | refine thn_exit ?_ | refine blk_here ?_ | refine blk_past rfl ?_ | refine thn_norm ?_ | refine blk_norm ?_ | refine CW.condT rfl ?_ | refine CW.condF rfl ?_ | (refine hK _ _ ?_; clear hK K))
        refine out1 (v := .int .i64 0) Try.results84 rfl ?_ (Or.inr rfl)
        rw [e1]
        have C24 := Grow.chg g3 c4
        refine ⟨rfl, ⟨RA, rcap, _, h2.setFile (c := 2) (DA := DA) (cap := cap) hi C24 (fun b hb => Or.inl hb) (by decide) o4 (by rw [q6]; rfl) (q3.keep C24 ?_)⟩, (t1.grow g2).andThen (C24.mono fun k _ hk => ?_)⟩
        · rintro b hb ⟨a, ha, rfl⟩
          rw [(h2.own.in_ ha).1] at hb; cases hb
        · obtain ⟨a, ha, rfl⟩ := hk
          rw [(h2.own.in_ ha).1]; rfl
    · have e1 : d.sync s = (51, d1) := by unfold PD.sync; rw [hbg]; simp only; rw [if_pos (by simp)]
      repeat (first | refine WL.nil ?_ | refine WL.auto (h := ?_) | refine WL.gskip rfl rfl rfl rfl ?_ | refine WL.gskipU rfl rfl rfl rfl ?_ | refine WL.gauto (h := ?_) | (refine CW.seq ?_; intro K hK) | refine CW.block ?_ | refine CW.region ?_ | refine CW.skip ?_ | refine CW.exit ?_ | refine CW.ret ?_ | (refine thn_ret (K := K) ?_; clear hK K) | refine thn_ret ?_ | refine blk_ret ?_ | (refine thn_exit (K := K) ?_; clear hK K) | refine thn_exit ?_ | refine blk_here ?_ | refine blk_past rfl ?_ | refine thn_norm ?_ | refine blk_norm ?_ | refine CW.condT rfl ?_ | refine CW.condF rfl ?_ | (refine hK _ _ ?_; clear hK K))
      refine out1 (v := .int .i64 51) Try.results84 rfl ?_ (Or.inr rfl)
      rw [e1]
      exact ⟨rfl, ⟨_, _, _, h1⟩, t1⟩

theorem rread86 (tag : Nat → Tag) (mb : Nat) (RA : Option Addr) (rcap : Nat) (cells : List Value) (d : PD) (s : List UInt8) (w : World) (h : RefAt tag w mb RA rcap cells d) (hn : d.files.length ≤ 16) (hd : ∀ f ∈ d.files, f.data.length ≤ 1099511627776) :
    Ret Try.prog 86 #[.pointer (some ⟨mb, 0, none⟩), .string (bstr s)] w fun v w' => Grow w w' ∧ ∃ A cap, v = .tuple #[.slice A (d.read s).1.length cap, .int .i64 (d.read s).2] ∧ Own w' A 5 1 (d.read s).1.length cap (bvs (d.read s).1) (fresh w) := by
  have hb := h.blk
  refine Ret.enter (fn := Try.f86) (N := 26) Try.func86 rfl Try.ntmps86 rfl ?_
  repeat (first | refine WL.nil ?_ | refine WL.auto (h := ?_) | refine WL.gskip rfl rfl rfl rfl ?_ | refine WL.gauto (h := ?_) | (refine CW.seq ?_; intro K hK) | refine CW.block ?_ | refine CW.region ?_ | refine CW.skip ?_ | refine CW.exit ?_ | refine CW.ret ?_ | (refine thn_ret (K := K) ?_; clear hK K) | refine thn_ret ?_ | refine blk_ret ?_ | (refine thn_exit (K := K) ?_; clear hK K) | refine thn_exit ?_ | refine blk_here ?_ | refine blk_past rfl ?_ | refine thn_norm ?_ | refine blk_norm ?_ | refine CW.condT rfl ?_ | refine CW.condF rfl ?_ | (refine hK _ _ ?_; clear hK K))
  refine CW.cond rfl (fun h1 => ?_) (fun h1 => ?_)
  · have e1 : d.read s = ([], 51) := by unfold PD.read; rw [if_pos h1]
    repeat (first | refine WL.nil ?_ | refine WL.auto (h := ?_) | refine WL.gskip rfl rfl rfl rfl ?_ | refine WL.gauto (h := ?_) | (refine CW.seq ?_; intro K hK) | refine CW.block ?_ | refine CW.region ?_ | refine CW.skip ?_ | refine CW.exit ?_ | refine CW.ret ?_ | (refine thn_ret (K := K) ?_; clear hK K) | refine thn_ret ?_ | refine blk_ret ?_ | (refine thn_exit (K := K) ?_; clear hK K) | refine thn_exit ?_ | refine blk_here ?_ | refine blk_past rfl ?_ | refine thn_norm ?_ | refine blk_norm ?_ | refine CW.condT rfl ?_ | refine CW.condF rfl ?_ | (refine hK _ _ ?_; clear hK K))
    refine out2 (v1 := .slice none 0 0) (v2 := .int .i64 51) Try.results86 rfl rfl ?_ (Or.inr rfl)
    rw [e1]
    exact ⟨Chg.refl _ _, none, 0, rfl, Own.nil _ _ _ _⟩
  repeat (first | refine WL.nil ?_ | refine WL.auto (h := ?_) | refine WL.gskip rfl rfl rfl rfl ?_ | refine WL.gauto (h := ?_) | (refine CW.seq ?_; intro K hK) | refine CW.block ?_ | refine CW.region ?_ | refine CW.skip ?_ | refine CW.exit ?_ | refine CW.ret ?_ | (refine thn_ret (K := K) ?_; clear hK K) | refine thn_ret ?_ | refine blk_ret ?_ | (refine thn_exit (K := K) ?_; clear hK K) | refine thn_exit ?_ | refine blk_here ?_ | refine blk_past rfl ?_ | refine thn_norm ?_ | refine blk_norm ?_ | refine CW.condT rfl ?_ | refine CW.condF rfl ?_ | (refine hK _ _ ?_; clear hK K))
  first | refine WL.step rfl ?_ | refine WL.gstep rfl rfl rfl rfl ?_
  refine OpW.call ((find75 tag mb RA rcap cells d s w h (by omega)).mono ?_) rfl
  rintro v w2 ⟨g2, rfl⟩
  have h2 := h.grow g2
  repeat (first | refine WL.nil ?_ | refine WL.auto (h := ?_) | refine WL.gskip rfl rfl rfl rfl ?_ | refine WL.gauto (h := ?_) | (refine CW.seq ?_; intro K hK) | refine CW.block ?_ | refine CW.region ?_ | refine CW.skip ?_ | refine CW.exit ?_ | refine CW.ret ?_ | (refine thn_ret (K := K) ?_; clear hK K) | refine thn_ret ?_ | refine blk_ret ?_ | (refine thn_exit (K := K) ?_; clear hK K) | refine thn_exit ?_ | refine blk_here ?_ | refine blk_past rfl ?_ | refine thn_norm ?_ | refine blk_norm ?_ | refine CW.condT rfl ?_ | refine CW.condF rfl ?_ | (refine hK _ _ ?_; clear hK K))
  rw [ixInt_neg]
  cases hx : d.ix s with
  | none =>
    have e1 : d.read s = ([], 50) := by unfold PD.read; rw [if_neg (by simp [h1]), hx]
    repeat (first | refine WL.nil ?_ | refine WL.auto (h := ?_) | refine WL.gskip rfl rfl rfl rfl ?_ | refine WL.gauto (h := ?_) | (refine CW.seq ?_; intro K hK) | refine CW.block ?_ | refine CW.region ?_ | refine CW.skip ?_ | refine CW.exit ?_ | refine CW.ret ?_ | (refine thn_ret (K := K) ?_; clear hK K) | refine thn_ret ?_ | refine blk_ret ?_ | (refine thn_exit (K := K) ?_; clear hK K) | refine thn_exit ?_ | refine blk_here ?_ | refine blk_past rfl ?_ | refine thn_norm ?_ | refine blk_norm ?_ | refine CW.condT rfl ?_ | refine CW.condF rfl ?_ | (refine hK _ _ ?_; clear hK K))
    refine out2 (v1 := .slice none 0 0) (v2 := .int .i64 50) Try.results86 rfl rfl ?_ (Or.inr rfl)
    rw [e1]
    exact ⟨g2, none, 0, rfl, Own.nil _ _ _ _⟩
  | some i =>
    obtain ⟨f, hi, hname⟩ := ix_get hx
    have e1 : d.read s = (f.data, 0) := by unfold PD.read; rw [if_neg (by simp [h1]), hx]; simp [hi]
    have hil := (List.getElem?_eq_some_iff.1 hi).1
    have hfl := hd f (List.mem_of_getElem? hi)
    repeat (first | refine WL.nil ?_ | refine WL.auto (h := ?_) | refine WL.gskip rfl rfl rfl rfl ?_ | refine WL.gauto (h := ?_) | (refine CW.seq ?_; intro K hK) | refine CW.block ?_ | refine CW.region ?_ | refine CW.skip ?_ | refine CW.exit ?_ | refine CW.ret ?_ | (refine thn_ret (K := K) ?_; clear hK K) | refine thn_ret ?_ | refine blk_ret ?_ | (refine thn_exit (K := K) ?_; clear hK K) | refine thn_exit ?_ | refine blk_here ?_ | refine blk_past rfl ?_ | refine thn_norm ?_ | refine blk_norm ?_ | refine CW.condT rfl ?_ | refine CW.condF rfl ?_ | (refine hK _ _ ?_; clear hK K))
    first | refine WL.step rfl ?_ | refine WL.gstep rfl rfl rfl rfl ?_
    refine OpW.buildNone (fun b3 w3 n3 => ?_)
    have h3 := h2.grow n3.grow
    have hb3 := h3.blk
    obtain ⟨DA, cap, q0, q1, q2, q3, q4, q5, q6⟩ := h3.at_ hi
    have hsl := h3.own.sl
    repeat (first | refine WL.nil ?_ | refine WL.auto (h := ?_) | refine WL.gskip rfl rfl rfl rfl ?_ | refine WL.gauto (h := ?_) | (refine CW.seq ?_; intro K hK) | refine CW.block ?_ | refine CW.region ?_ | refine CW.skip ?_ | refine CW.exit ?_ | refine CW.ret ?_ | (refine thn_ret (K := K) ?_; clear hK K) | refine thn_ret ?_ | refine blk_ret ?_ | (refine thn_exit (K := K) ?_; clear hK K) | refine thn_exit ?_ | refine blk_here ?_ | refine blk_past rfl ?_ | refine thn_norm ?_ | refine blk_norm ?_ | refine CW.condT rfl ?_ | refine CW.condF rfl ?_ | (refine hK _ _ ?_; clear hK K))
    first | refine WL.step rfl ?_ | refine WL.gstep rfl rfl rfl rfl ?_
    refine OpW.indexAddr i rfl rfl rfl hil q4 q5 ?_
    repeat (first | refine WL.nil ?_ | refine WL.auto (h := ?_) | refine WL.gskip rfl rfl rfl rfl ?_ | refine WL.gauto (h := ?_) | (refine CW.seq ?_; intro K hK) | refine CW.block ?_ | refine CW.region ?_ | refine CW.skip ?_ | refine CW.exit ?_ | refine CW.ret ?_ | (refine thn_ret (K := K) ?_; clear hK K) | refine thn_ret ?_ | refine blk_ret ?_ | (refine thn_exit (K := K) ?_; clear hK K) | refine thn_exit ?_ | refine blk_here ?_ | refine blk_past rfl ?_ | refine thn_norm ?_ | refine blk_norm ?_ | refine CW.condT rfl ?_ | refine CW.condF rfl ?_ | (refine hK _ _ ?_; clear hK K))
    first | refine WL.step rfl ?_ | refine WL.gstep rfl rfl rfl rfl ?_
    refine OpW.appB (w0 := w2) (l := []) (m := f.data) rfl rfl rfl rfl rfl rfl (Own.empty n3) q3.sl n3.grow (by simp; omega) (fun A7 c7 w7 o7 g7 _ => ?_)
    rw [List.nil_append] at o7 ⊢
    repeat (first | refine WL.nil ?_ | refine WL.auto (h := ?_) | refine WL.gskip rfl rfl rfl rfl ?_ | refine WL.gauto (h := ?_) | (refine CW.seq ?_; intro K hK) | refine CW.block ?_ | refine CW.region ?_ | refine CW.skip ?_ | refine CW.exit ?_ | refine CW.ret ?_ | (refine thn_ret (K := K) ?_; clear hK K) | refine thn_ret ?_ | refine blk_ret ?_ | (refine thn_exit (K := K) ?_; clear hK K) | refine thn_exit ?_ | refine blk_here ?_ | refine blk_past rfl ?_ | refine thn_norm ?_ | refine blk_norm ?_ | refine CW.condT rfl ?_ | refine CW.condF rfl ?_ | (refine hK _ _ ?_; clear hK K))
    refine out2 (v1 := .slice A7 f.data.length c7) (v2 := .int .i64 0) Try.results86 rfl rfl ?_ (Or.inr rfl)
    rw [e1]
    exact ⟨g2.then g7, A7, c7, rfl, o7.mono fun k hk => fresh_mono g2 k hk⟩

theorem K_of' {K : Env → World → Prop} {f : Env → Env} {E : Env} {w : World} (key : ∀ e0, K (f e0) w) (h : ∃ e0, E = f e0) : K E w := by
  obtain ⟨e0, rfl⟩ := h
  exact key e0
/-- What an append does to a disk whose power is on. -/
def PD.add (d : PD) (s b : List UInt8) : Int × PD :=
  match d.ix s with
  | none => if rightName s = false ∨ 16 ≤ d.files.length then (50, d) else (0, { d with files := d.files ++ [⟨s, b, 0⟩] })
  | some i => (0, { d with files := d.files.modify i fun f => { f with data := f.data ++ b } })
theorem set_snoc (l : List PF) (f g : PF) : (l ++ [f]).set l.length g = l ++ [g] := by
  induction l with
  | nil => rfl
  | cons x l ih => simp [ih]
theorem radd103 (tag : Nat → Tag) (mb : Nat) (d : PD) (s b : List UInt8) (B : Option Addr) (bcap : Nat) (w : World) (h : RefRep tag w mb d) (hn : d.files.length ≤ 16) (hs : s.length ≤ 1099511627776)
    (hb : Sl w B (bvs b)) (hB : b ≠ [] → ∀ a, B = some a → (tag a.block).ref = false) (hbl : b.length ≤ 1099511627776) (hd : ∀ f ∈ d.files, f.data.length ≤ 1099511627776) :
    Ret Try.prog 103 #[.pointer (some ⟨mb, 0, none⟩), .string (bstr s), .slice B b.length bcap] w fun v w' => v = .int .i64 (d.add s b).1 ∧ WentR tag w w' mb (d.add s b).2 := by
  obtain ⟨RA, rcap, cells, h⟩ := h
  refine Ret.enter (fn := Try.f103) (N := 58) Try.func103 rfl Try.ntmps103 rfl ?_
  repeat (first | refine WL.nil ?_ | refine WL.auto (h := ?_) | refine WL.gskip rfl rfl rfl rfl ?_ | refine WL.gauto (h := ?_) | (refine CW.seq ?_; intro K hK) | refine CW.block ?_ | refine CW.region ?_ | refine CW.skip ?_ | refine CW.exit ?_ | refine CW.ret ?_ | (refine thn_ret (K := K) ?_; clear hK K) | refine thn_ret ?_ | refine blk_ret ?_ | (refine thn_exit (K := K) ?_; clear hK K) | refine thn_exit ?_ | refine blk_here ?_ | refine blk_past rfl ?_ | refine thn_norm ?_ | refine blk_norm ?_ | refine CW.condT rfl ?_ | refine CW.condF rfl ?_ | (refine hK _ _ ?_; clear hK K))
  first | refine WL.step rfl ?_ | refine WL.gstep rfl rfl rfl rfl ?_
  refine OpW.call ((find75 tag mb RA rcap cells d s w h (by omega)).mono ?_) rfl
  rintro v w2 ⟨g2, rfl⟩
  have h2 := h.grow g2
  have hb2 := hb.grow g2
  repeat (first | refine WL.nil ?_ | refine WL.auto (h := ?_) | refine WL.gskip rfl rfl rfl rfl ?_ | refine WL.gauto (h := ?_) | (refine CW.seq ?_; intro K hK) | refine CW.block ?_ | refine CW.region ?_ | refine CW.skip ?_ | refine CW.exit ?_ | refine CW.ret ?_ | (refine thn_ret (K := K) ?_; clear hK K) | refine thn_ret ?_ | refine blk_ret ?_ | (refine thn_exit (K := K) ?_; clear hK K) | refine thn_exit ?_ | refine blk_here ?_ | refine blk_past rfl ?_ | refine thn_norm ?_ | refine blk_norm ?_ | refine CW.condT rfl ?_ | refine CW.condF rfl ?_ | (refine hK _ _ ?_; clear hK K))
  rw [ixInt_neg]
  have key : ∀ (tag' : Nat → Tag) (w3 : World) (RA' : Option Addr) (rcap' : Nat) (cells' : List Value) (d' : PD) (i : Nat) (f : PF), (∀ k, k < w2.heap.size → tag' k = tag k) → Chg (fun b => (tag b).ref = true) w2 w3 → RefAt tag' w3 mb RA' rcap' cells' d' → d'.files[i]? = some f → f.data.length ≤ 1099511627776 → Sl w3 B (bvs b) → d.add s b = (0, { d' with files := d'.files.set i { f with data := f.data ++ b } }) →
      ∀ e0, K (upd (upd (upd e0 0 (.pointer (some ⟨mb, 0, none⟩))) 2 (.slice B b.length bcap)) 7 (.int .i64 i)) w3 := by
    intro tag' w3 RA' rcap' cells' d' i f ht hC h3 hi hfl hb3 hadd e0
    refine hK _ _ ?_
    clear hK
    have hbk := h3.blk
    have hil := (List.getElem?_eq_some_iff.1 hi).1
    obtain ⟨DA, cap, q0, q1, q2, q3, q4, q5, q6⟩ := h3.at_ hi
    have hsl := h3.own.sl
    have hnm : ¬ (∃ a, DA = some a ∧ a.block = mb) := by
      rintro ⟨a, ha, e⟩
      have := (q3.in_ ha).1
      rw [e, h3.tg] at this; cases this
    have hnr : ∀ a, RA' = some a → ¬ (∃ a', DA = some a' ∧ a'.block = a.block) := by
      rintro a ha ⟨a', ha', e⟩
      have h7 := (q3.in_ ha').1
      rw [e, (h3.own.in_ ha).1] at h7; cases h7
    repeat (first | refine WL.nil ?_ | refine WL.auto (h := ?_) | refine WL.gskip rfl rfl rfl rfl ?_ | refine WL.gauto (h := ?_) | (refine CW.seq ?_; intro K hK) | refine CW.block ?_ | refine CW.region ?_ | refine CW.skip ?_ | refine CW.exit ?_ | refine CW.ret ?_ | (refine thn_ret (K := K) ?_; clear hK K) | refine thn_ret ?_ | refine blk_ret ?_ | (refine thn_exit (K := K) ?_; clear hK K) | refine thn_exit ?_ | refine blk_here ?_ | refine blk_past rfl ?_ | refine thn_norm ?_ | refine blk_norm ?_ | refine CW.condT rfl ?_ | refine CW.condF rfl ?_ | (refine hK _ _ ?_; clear hK K))
    refine CW.held2 17 (fun b => ∃ a, DA = some a ∧ a.block = b) (fun b => (∃ a, DA = some a ∧ a.block = b) ∨ ∃ a, RA' = some a ∧ a.block = b) (.take 0 (.take 1 (.take 2 (.take 3 (.take 4 (.take 5 (.take 6 (.take 7 (.take 8 (.take 9 (.take 10 (.take 11 (.take 12 (.take 13 (.one 14 (.take 15 (.take 16 (.one 17 .nil)))))))))))))))))) (fun _ h => Or.inl h) rfl (by kernel_rfl) (by kernel_rfl) (fun w4 g4 => ?_)
    repeat (first | refine AL2.autoU (hn := ?_) | refine AL2.auto (hn := ?_) | refine AL2.gskip rfl rfl rfl rfl rfl ?_ | refine AL2.goneSkip rfl rfl rfl rfl rfl rfl ?_ | refine AL2.gskipU rfl rfl rfl rfl rfl ?_ | refine AL2.goneSkipU rfl rfl rfl rfl rfl rfl ?_ | refine AL2.gautoU (hn := ?_) | refine AL2.gauto (hn := ?_) | refine AL2.oauto (hn := ?_))
    refine AL2.takeU rfl rfl rfl (fun w hg => OpW.indexAddr i rfl rfl rfl hil q4 q5 ⟨rfl, rfl⟩) ?_
    repeat (first | refine AL2.autoU (hn := ?_) | refine AL2.auto (hn := ?_) | refine AL2.gskip rfl rfl rfl rfl rfl ?_ | refine AL2.goneSkip rfl rfl rfl rfl rfl rfl ?_ | refine AL2.gskipU rfl rfl rfl rfl rfl ?_ | refine AL2.goneSkipU rfl rfl rfl rfl rfl rfl ?_ | refine AL2.gautoU (hn := ?_) | refine AL2.gauto (hn := ?_) | refine AL2.oauto (hn := ?_))
    first | refine AL2.one rfl rfl rfl ?_ | refine AL2.gone rfl rfl rfl rfl rfl rfl ?_
    refine OpW.append rfl rfl rfl (q3.grow g4) (hb3.grow g4) (bvs_len1 b) (bvs_one b) ⟨by omega, by omega⟩ (fun A' c' w5 o5 c5 _ => ?_)
    rw [← List.length_append, ← bvs_append] at o5
    rw [← List.length_append]
    refine ⟨fun h => h.andThen c5, ?_⟩
    have o5r := (h3.own.grow g4).keep' c5 hnr
    repeat (first | refine AL2.autoU (hn := ?_) | refine AL2.auto (hn := ?_) | refine AL2.gskip rfl rfl rfl rfl rfl ?_ | refine AL2.goneSkip rfl rfl rfl rfl rfl rfl ?_ | refine AL2.gskipU rfl rfl rfl rfl rfl ?_ | refine AL2.goneSkipU rfl rfl rfl rfl rfl rfl ?_ | refine AL2.gautoU (hn := ?_) | refine AL2.gauto (hn := ?_) | refine AL2.oauto (hn := ?_))
    refine AL2.takeU rfl rfl rfl (fun w hg => OpW.indexAddr i rfl rfl rfl hil q4 q5 ⟨rfl, rfl⟩) ?_
    repeat (first | refine AL2.autoU (hn := ?_) | refine AL2.auto (hn := ?_) | refine AL2.gskip rfl rfl rfl rfl rfl ?_ | refine AL2.goneSkip rfl rfl rfl rfl rfl rfl ?_ | refine AL2.gskipU rfl rfl rfl rfl rfl ?_ | refine AL2.goneSkipU rfl rfl rfl rfl rfl rfl ?_ | refine AL2.gautoU (hn := ?_) | refine AL2.gauto (hn := ?_) | refine AL2.oauto (hn := ?_))
    refine AL2.last0 rfl rfl ?_
    refine OpW.storeOwnK (q := i * 3 + 1) (v := .slice A' (f.data ++ b).length c') rfl rfl rfl o5r (by omega) (fun w6 o6 c6 _ => ⟨fun h => (h.mono fun k _ hk => Or.inl hk).andThen (c6.mono fun k _ hk => Or.inr hk), ?_⟩)
    repeat (first | refine AL.nil ?_ | refine AL.auto (hn := ?_) | refine AL.gskip rfl rfl rfl rfl rfl ?_ | refine AL.goneSkip rfl rfl rfl rfl rfl ?_ | refine AL.gauto (hn := ?_) | refine AL.oauto (hn := ?_))
    repeat (first | refine WL.nil ?_ | refine WL.auto (h := ?_) | refine WL.gskip rfl rfl rfl rfl ?_ | refine WL.gauto (h := ?_) | (refine CW.seq ?_; intro K hK) | refine CW.block ?_ | refine CW.region ?_ | refine CW.skip ?_ | refine CW.exit ?_ | refine CW.ret ?_ | (refine thn_ret (K := K) ?_; clear hK K) | refine thn_ret ?_ | refine blk_ret ?_ | (refine thn_exit (K := K) ?_; clear hK K) | refine thn_exit ?_ | refine blk_here ?_ | refine blk_past rfl ?_ | refine thn_norm ?_ | refine blk_norm ?_ | refine CW.condT rfl ?_ | refine CW.condF rfl ?_ | (refine hK _ _ ?_; clear hK K))
    refine out1 (v := .int .i64 0) Try.results103 rfl ?_ (Or.inr rfl)
    rw [hadd]
    have C36 : Chg (fun k => (∃ a, DA = some a ∧ a.block = k) ∨ ∃ a, RA' = some a ∧ a.block = k) w3 w6 := (Grow.chg g4 (c5.mono fun k _ hk => Or.inl hk)).andThen (c6.mono fun k _ hk => Or.inr hk)
    have hlt : ∀ {k}, k < w3.heap.size → (if k < w3.heap.size then tag' k else .rdata i) = tag' k := fun hk => by rw [if_pos hk]
    have hR := h3.retag (tag' := fun k => if k < w3.heap.size then tag' k else .rdata i) fun k hk => hlt hk
    have z4 : w3.heap.size ≤ w4.heap.size := g4.size
    have hz : ∀ k, (∃ a, DA = some a ∧ a.block = k) ∨ w4.heap.size ≤ k → (if k < w3.heap.size then tag' k else .rdata i) = .rdata i := by
      rintro k (⟨a, ha, rfl⟩ | hk)
      · rw [hlt (q3.in_ ha).2]; exact (q3.in_ ha).1
      · rw [if_neg (by omega)]
    have s23 := hC.size
    have s2 := g2.size
    have hR6 := hR.setFile (c := 1) (f' := { f with data := f.data ++ b }) (DA := A') (cap := c') hi C36 (fun k hk => hk.symm.imp id fun hk => Or.inl (hz k (Or.inl hk))) (by decide) (o6.zone fun a ha => by
        have q := (h3.own.in_ ha)
        show (if _ then _ else _) = _
        rw [if_pos q.2]; exact q.1) (by rw [q6]; rfl) ((o5.mono hz).keep c6 (by
        rintro k hk ⟨a, ha, rfl⟩
        have q := (h3.own.in_ ha)
        rw [if_pos q.2, q.1] at hk; cases hk))
    refine ⟨rfl, _, fun k hk => ?_, ⟨RA', rcap', _, hR6⟩, Grow.chg g2 (hC.trans C36 fun k hk hc => ?_)⟩
    · rw [hlt (by omega)]; exact ht k (by omega)
    · rcases hc with ⟨a, ha, rfl⟩ | ⟨a, ha, rfl⟩
      · have q := (q3.in_ ha).1
        rw [ht _ hk] at q
        rw [q]; rfl
      · have q := (h3.own.in_ ha).1
        rw [ht _ hk] at q
        rw [q]; rfl
  clear hK
  cases hx : d.ix s with
  | some i =>
    obtain ⟨f, hi, hname⟩ := ix_get hx
    have hadd : d.add s b = (0, { d with files := d.files.set i { f with data := f.data ++ b } }) := by
      unfold PD.add; rw [hx]; simp only; rw [modify_set hi]
    have key2 := key tag w2 RA rcap cells d i f (fun _ _ => rfl) (Chg.refl _ _) h2 hi (hd f (List.mem_of_getElem? hi)) hb2 hadd
    clear key
    repeat (first | refine WL.nil ?_ | refine WL.auto (h := ?_) | refine WL.gskip rfl rfl rfl rfl ?_ | refine WL.gskipU rfl rfl rfl rfl ?_ | refine WL.gauto (h := ?_) | (refine CW.seq ?_; intro K hK) | refine CW.block ?_ | refine CW.region ?_ | refine CW.skip ?_ | refine CW.exit ?_ | refine CW.ret ?_ | (refine thn_ret (K := K) ?_; clear hK K) | refine thn_ret ?_ | refine blk_ret ?_ | (refine thn_exit (K := K) ?_; clear hK K) | refine thn_exit ?_ | refine blk_here ?_ | refine blk_past rfl ?_ | refine thn_norm ?_ | refine blk_norm ?_ | refine CW.condT rfl ?_ | refine CW.condF rfl ?_ | (refine hK _ _ ?_; clear hK K))
    exact K_of' key2 (rep3 rfl rfl rfl)
  | none =>
    have hG : d.add s b = if rightName s = false ∨ 16 ≤ d.files.length then (50, d) else (0, { d with files := d.files ++ [⟨s, b, 0⟩] }) := by
      unfold PD.add; rw [hx]
    have hbk := h2.blk
    repeat (first | refine WL.nil ?_ | refine WL.auto (h := ?_) | refine WL.gskip rfl rfl rfl rfl ?_ | refine WL.gskipU rfl rfl rfl rfl ?_ | refine WL.gauto (h := ?_) | (refine CW.seq ?_; intro K hK) | refine CW.block ?_ | refine CW.region ?_ | refine CW.skip ?_ | refine CW.exit ?_ | refine CW.ret ?_ | (refine thn_ret (K := K) ?_; clear hK K) | refine thn_ret ?_ | refine blk_ret ?_ | (refine thn_exit (K := K) ?_; clear hK K) | refine thn_exit ?_ | refine blk_here ?_ | refine blk_past rfl ?_ | refine thn_norm ?_ | refine blk_norm ?_ | refine CW.condT rfl ?_ | refine CW.condF rfl ?_ | (refine hK _ _ ?_; clear hK K))
    first | refine WL.step rfl ?_ | refine WL.gstep rfl rfl rfl rfl ?_
    refine OpW.call ((right74 s w2 (by omega)).mono ?_) rfl
    rintro v w3 ⟨rfl, g3⟩
    have h3 := h2.grow g3
    have hbk3 := h3.blk
    by_cases hbad : rightName s = false ∨ 16 ≤ d.files.length
    · rw [if_pos hbad] at hG
      cases hrn : rightName s with
      | false =>
        repeat (first | refine WL.nil ?_ | refine WL.auto (h := ?_) | refine WL.gskip rfl rfl rfl rfl ?_ | refine WL.gskipU rfl rfl rfl rfl ?_ | refine WL.gauto (h := ?_) | (refine CW.seq ?_; intro K hK) | refine CW.block ?_ | refine CW.region ?_ | refine CW.skip ?_ | refine CW.exit ?_ | refine CW.ret ?_ | (refine thn_ret (K := K) ?_; clear hK K) | refine thn_ret ?_ | refine blk_ret ?_ | (refine thn_exit (K := K) ?_; clear hK K) | refine thn_exit ?_ | refine blk_here ?_ | refine blk_past rfl ?_ | refine thn_norm ?_ | refine blk_norm ?_ | refine CW.condT rfl ?_ | refine CW.condF rfl ?_ | (refine hK _ _ ?_; clear hK K))
        refine out1 (v := .int .i64 50) Try.results103 rfl ?_ (Or.inr rfl)
        rw [hG]
        exact ⟨rfl, tag, fun _ _ => rfl, ⟨_, _, _, h3⟩, Chg.to (g2.then g3)⟩
      | true =>
        have h16 : 16 ≤ d.files.length := hbad.resolve_left (by simp [hrn])
        repeat (first | refine WL.nil ?_ | refine WL.auto (h := ?_) | refine WL.gskip rfl rfl rfl rfl ?_ | refine WL.gskipU rfl rfl rfl rfl ?_ | refine WL.gauto (h := ?_) | (refine CW.seq ?_; intro K hK) | refine CW.block ?_ | refine CW.region ?_ | refine CW.skip ?_ | refine CW.exit ?_ | refine CW.ret ?_ | (refine thn_ret (K := K) ?_; clear hK K) | refine thn_ret ?_ | refine blk_ret ?_ | (refine thn_exit (K := K) ?_; clear hK K) | refine thn_exit ?_ | refine blk_here ?_ | refine blk_past rfl ?_ | refine thn_norm ?_ | refine blk_norm ?_ | refine CW.condT rfl ?_ | refine CW.condF rfl ?_ | (refine hK _ _ ?_; clear hK K))
        rw [decide_eq_true (p := (16 : Int) ≤ (d.files.length : Int)) (by omega)]
        repeat (first | refine WL.nil ?_ | refine WL.auto (h := ?_) | refine WL.gskip rfl rfl rfl rfl ?_ | refine WL.gskipU rfl rfl rfl rfl ?_ | refine WL.gauto (h := ?_) | (refine CW.seq ?_; intro K hK) | refine CW.block ?_ | refine CW.region ?_ | refine CW.skip ?_ | refine CW.exit ?_ | refine CW.ret ?_ | (refine thn_ret (K := K) ?_; clear hK K) | refine thn_ret ?_ | refine blk_ret ?_ | (refine thn_exit (K := K) ?_; clear hK K) | refine thn_exit ?_ | refine blk_here ?_ | refine blk_past rfl ?_ | refine thn_norm ?_ | refine blk_norm ?_ | refine CW.condT rfl ?_ | refine CW.condF rfl ?_ | (refine hK _ _ ?_; clear hK K))
        refine out1 (v := .int .i64 50) Try.results103 rfl ?_ (Or.inr rfl)
        rw [hG]
        exact ⟨rfl, tag, fun _ _ => rfl, ⟨_, _, _, h3⟩, Chg.to (g2.then g3)⟩
    · rw [if_neg hbad] at hG
      have hrn : rightName s = true := by cases hq : rightName s with
        | true => rfl
        | false => exact absurd (Or.inl hq) hbad
      have h16 : ¬ 16 ≤ d.files.length := fun h => hbad (Or.inr h)
      rw [hrn]
      repeat (first | refine WL.nil ?_ | refine WL.auto (h := ?_) | refine WL.gskip rfl rfl rfl rfl ?_ | refine WL.gskipU rfl rfl rfl rfl ?_ | refine WL.gauto (h := ?_) | (refine CW.seq ?_; intro K hK) | refine CW.block ?_ | refine CW.region ?_ | refine CW.skip ?_ | refine CW.exit ?_ | refine CW.ret ?_ | (refine thn_ret (K := K) ?_; clear hK K) | refine thn_ret ?_ | refine blk_ret ?_ | (refine thn_exit (K := K) ?_; clear hK K) | refine thn_exit ?_ | refine blk_here ?_ | refine blk_past rfl ?_ | refine thn_norm ?_ | refine blk_norm ?_ | refine CW.condT rfl ?_ | refine CW.condF rfl ?_ | (refine hK _ _ ?_; clear hK K))
      rw [decide_eq_false (p := (16 : Int) ≤ (d.files.length : Int)) (by omega)]
      repeat (first | refine WL.nil ?_ | refine WL.auto (h := ?_) | refine WL.gskip rfl rfl rfl rfl ?_ | refine WL.gskipU rfl rfl rfl rfl ?_ | refine WL.gauto (h := ?_) | (refine CW.seq ?_; intro K hK) | refine CW.block ?_ | refine CW.region ?_ | refine CW.skip ?_ | refine CW.exit ?_ | refine CW.ret ?_ | (refine thn_ret (K := K) ?_; clear hK K) | refine thn_ret ?_ | refine blk_ret ?_ | (refine thn_exit (K := K) ?_; clear hK K) | refine thn_exit ?_ | refine blk_here ?_ | refine blk_past rfl ?_ | refine thn_norm ?_ | refine blk_norm ?_ | refine CW.condT rfl ?_ | refine CW.condF rfl ?_ | (refine hK _ _ ?_; clear hK K))
      first | refine WL.step rfl ?_ | refine WL.gstep rfl rfl rfl rfl ?_
      refine OpW.build (cells := #[.string (bstr s), .slice none 0 0, .int .i64 0]) rfl rfl ?_
      repeat (first | refine WL.nil ?_ | refine WL.auto (h := ?_) | refine WL.gskip rfl rfl rfl rfl ?_ | refine WL.gskipU rfl rfl rfl rfl ?_ | refine WL.gauto (h := ?_) | (refine CW.seq ?_; intro K hK) | refine CW.block ?_ | refine CW.region ?_ | refine CW.skip ?_ | refine CW.exit ?_ | refine CW.ret ?_ | (refine thn_ret (K := K) ?_; clear hK K) | refine thn_ret ?_ | refine blk_ret ?_ | (refine thn_exit (K := K) ?_; clear hK K) | refine thn_exit ?_ | refine blk_here ?_ | refine blk_past rfl ?_ | refine thn_norm ?_ | refine blk_norm ?_ | refine CW.condT rfl ?_ | refine CW.condF rfl ?_ | (refine hK _ _ ?_; clear hK K))
      first | refine WL.step rfl ?_ | refine WL.gstep rfl rfl rfl rfl ?_
      refine OpW.buildOne (.agg #[.string (bstr s), .slice none 0 0, .int .i64 0]) rfl rfl rfl ?_
      intro b5 w5 n5
      have h5 := h3.grow n5.grow
      repeat (first | refine WL.nil ?_ | refine WL.auto (h := ?_) | refine WL.gskip rfl rfl rfl rfl ?_ | refine WL.gskipU rfl rfl rfl rfl ?_ | refine WL.gauto (h := ?_) | (refine CW.seq ?_; intro K hK) | refine CW.block ?_ | refine CW.region ?_ | refine CW.skip ?_ | refine CW.exit ?_ | refine CW.ret ?_ | (refine thn_ret (K := K) ?_; clear hK K) | refine thn_ret ?_ | refine blk_ret ?_ | (refine thn_exit (K := K) ?_; clear hK K) | refine thn_exit ?_ | refine blk_here ?_ | refine blk_past rfl ?_ | refine thn_norm ?_ | refine blk_norm ?_ | refine CW.condT rfl ?_ | refine CW.condF rfl ?_ | (refine hK _ _ ?_; clear hK K))
      first | refine WL.step rfl ?_ | refine WL.gstep rfl rfl rfl rfl ?_
      refine OpW.append (ys := [.string (bstr s), .slice none 0 0, .int .i64 0]) rfl rfl rfl h5.own (blk_sl_lit (vs := [.string (bstr s), .slice none 0 0, .int .i64 0]) n5) rfl (one1 _ rfl) ⟨by omega, by omega⟩ (fun RA' rcap' w6 o6 c6 _ => ?_)
      have hb6 := h5.blk.keep c6 (by rintro ⟨a, ha, e⟩; have := (h5.own.in_ ha).1; rw [e, h5.tg] at this; cases this)
      repeat (first | refine WL.nil ?_ | refine WL.auto (h := ?_) | refine WL.gskip rfl rfl rfl rfl ?_ | refine WL.gskipU rfl rfl rfl rfl ?_ | refine WL.gauto (h := ?_) | (refine CW.seq ?_; intro K hK) | refine CW.block ?_ | refine CW.region ?_ | refine CW.skip ?_ | refine CW.exit ?_ | refine CW.ret ?_ | (refine thn_ret (K := K) ?_; clear hK K) | refine thn_ret ?_ | refine blk_ret ?_ | (refine thn_exit (K := K) ?_; clear hK K) | refine thn_exit ?_ | refine blk_here ?_ | refine blk_past rfl ?_ | refine thn_norm ?_ | refine blk_norm ?_ | refine CW.condT rfl ?_ | refine CW.condF rfl ?_ | (refine hK _ _ ?_; clear hK K))
      refine WL.step0 ?_
      refine OpW.store (v := .slice _ _ _) rfl rfl rfl hb6 rfl (c' := #[_, _, _]) rfl ?_
      intro w7 hp7 hb7
      have z5 : w3.heap.size ≤ w5.heap.size := n5.grow.size
      have mlt : mb < w3.heap.size := h3.blk.lt
      have C37 : Chg (fun k => k = mb ∨ ∃ a, RA = some a ∧ a.block = k) w3 w7 := (Grow.chg n5.grow (c6.mono fun k _ hk => Or.inr hk)).andThen (hp7.chg.mono fun k _ hk => Or.inl hk)
      have o7 := o6.keep hp7.chg (by
        rintro k (⟨a, ha, rfl⟩ | hk) e
        · have q := (h5.own.in_ ha).1
          rw [e, h5.tg] at q; cases q
        · omega)
      obtain ⟨tag', ht', hR7⟩ := h3.snoc (g := ⟨s, [], 0⟩) (DA := none) (cap := 0) (fun _ => true) C37 hb7 (o7.zone fun a ha => by
        rcases (o7.in_ ha).1 with q | q
        · exact Or.inl q
        · exact Or.inr ⟨by omega, rfl⟩) (Own.nil _ _ _ _)
      have hsn := set_snoc d.files ⟨s, [], 0⟩ ⟨s, b, 0⟩
      have hb7' : Sl w7 B (bvs b) := (hb2.grow g3).keepN C37 (by
        rintro hne a ha (e | ⟨a', ha', e⟩)
        · have q := hB (bvs_ne hne) a ha
          rw [e, h.tg] at q; cases q
        · have q := hB (bvs_ne hne) a ha
          rw [← e, (h.own.in_ ha').1] at q; cases q)
      have key2 := key tag' w7 RA' rcap' _ _ d.files.length ⟨s, [], 0⟩ (fun k hk => ht' k (by have := g3.size; omega)) (Grow.chg g3 (C37.mono fun k hk hc => by
          rcases hc with rfl | ⟨a, ha, rfl⟩
          · rw [h.tg]; rfl
          · rw [(h.own.in_ ha).1]; rfl)) hR7 (by simp) (by simp) hb7' (by rw [hG]; simp only [List.nil_append]; rw [hsn])
      clear key
      repeat (first | refine WL.nil ?_ | refine WL.auto (h := ?_) | refine WL.gskip rfl rfl rfl rfl ?_ | refine WL.gskipU rfl rfl rfl rfl ?_ | refine WL.gauto (h := ?_) | (refine CW.seq ?_; intro K hK) | refine CW.block ?_ | refine CW.region ?_ | refine CW.skip ?_ | refine CW.exit ?_ | refine CW.ret ?_ | (refine thn_ret (K := K) ?_; clear hK K) | refine thn_ret ?_ | refine blk_ret ?_ | (refine thn_exit (K := K) ?_; clear hK K) | refine thn_exit ?_ | refine blk_here ?_ | refine blk_past rfl ?_ | refine thn_norm ?_ | refine blk_norm ?_ | refine CW.condT rfl ?_ | refine CW.condF rfl ?_ | (refine hK _ _ ?_; clear hK K))
      exact K_of' key2 (rep3 rfl rfl (congrArg (Value.int .i64) (by omega)))
theorem append_add {d d1 : PD} {e : Int} {s b : List UInt8} (hbg : d.begin = (true, e, d1)) (he : e = 0 ∨ e = 51) (hn : d1.files.length ≤ 16) : d.append s b = (if e = 51 then 51 else (d1.add s b).1, (d1.add s b).2) := by
  unfold PD.append PD.add
  rw [hbg]
  simp only [if_true]
  cases hx : d1.ix s with
  | none =>
    simp only
    by_cases hbad : rightName s = false ∨ d1.files.length = 16
    · have hb2 : rightName s = false ∨ 16 ≤ d1.files.length := hbad.imp id (fun h => by omega)
      simp only [hbad, hb2, if_true]
      rcases he with rfl | rfl <;> rfl
    · have hb2 : ¬ (rightName s = false ∨ 16 ≤ d1.files.length) := fun h => hbad (h.imp id (fun h => by omega))
      simp only [hbad, hb2, if_false]
      rcases he with rfl | rfl <;> rfl
  | some i =>
    simp only
    rcases he with rfl | rfl <;> rfl
theorem rappend83 (tag : Nat → Tag) (mb : Nat) (d : PD) (s b : List UInt8) (B : Option Addr) (bcap : Nat) (w : World) (h : RefRep tag w mb d) (ha : d.armed ≤ 9223372036854775807) (hn : d.files.length ≤ 16) (hs : s.length ≤ 1099511627776)
    (hb : Sl w B (bvs b)) (hB : b ≠ [] → ∀ a, B = some a → (tag a.block).ref = false) (hbl : b.length ≤ 1099511627776) (hd : ∀ f ∈ d.files, f.data.length ≤ 1099511627776) :
    Ret Try.prog 83 #[.pointer (some ⟨mb, 0, none⟩), .string (bstr s), .slice B b.length bcap] w fun v w' => v = .int .i64 (d.append s b).1 ∧ WentR tag w w' mb (d.append s b).2 := by
  obtain ⟨RA, rcap, cells, h⟩ := h
  have hbk := h.blk
  refine Ret.enter (fn := Try.f83) (N := 21) Try.func83 rfl Try.ntmps83 rfl ?_
  repeat (first | refine WL.nil ?_ | refine WL.auto (h := ?_) | refine WL.gskip rfl rfl rfl rfl ?_ | refine WL.gauto (h := ?_) | (refine CW.seq ?_; intro K hK) | refine CW.block ?_ | refine CW.region ?_ | refine CW.skip ?_ | refine CW.exit ?_ | refine CW.ret ?_ | (refine thn_ret (K := K) ?_; clear hK K) | refine thn_ret ?_ | refine blk_ret ?_ | (refine thn_exit (K := K) ?_; clear hK K) | refine thn_exit ?_ | refine blk_here ?_ | refine blk_past rfl ?_ | refine thn_norm ?_ | refine blk_norm ?_ | refine CW.condT rfl ?_ | refine CW.condF rfl ?_ | (refine hK _ _ ?_; clear hK K))
  cases ho : d.off with
  | true =>
    have e1 : d.append s b = (51, d) := by unfold PD.append; rw [begin_off ho]; rfl
    repeat (first | refine WL.nil ?_ | refine WL.auto (h := ?_) | refine WL.gskip rfl rfl rfl rfl ?_ | refine WL.gskipU rfl rfl rfl rfl ?_ | refine WL.gauto (h := ?_) | (refine CW.seq ?_; intro K hK) | refine CW.block ?_ | refine CW.region ?_ | refine CW.skip ?_ | refine CW.exit ?_ | refine CW.ret ?_ | (refine thn_ret (K := K) ?_; clear hK K) | refine thn_ret ?_ | refine blk_ret ?_ | (refine thn_exit (K := K) ?_; clear hK K) | refine thn_exit ?_ | refine blk_here ?_ | refine blk_past rfl ?_ | refine thn_norm ?_ | refine blk_norm ?_ | refine CW.condT rfl ?_ | refine CW.condF rfl ?_ | (refine hK _ _ ?_; clear hK K))
    refine out1 (v := .int .i64 51) Try.results83 rfl ?_ (Or.inr rfl)
    rw [e1]
    exact ⟨rfl, tag, fun _ _ => rfl, ⟨_, _, _, h⟩, Chg.refl _ _⟩
  | false =>
    repeat (first | refine WL.nil ?_ | refine WL.auto (h := ?_) | refine WL.gskip rfl rfl rfl rfl ?_ | refine WL.gskipU rfl rfl rfl rfl ?_ | refine WL.gauto (h := ?_) | (refine CW.seq ?_; intro K hK) | refine CW.block ?_ | refine CW.region ?_ | refine CW.skip ?_ | refine CW.exit ?_ | refine CW.ret ?_ | (refine thn_ret (K := K) ?_; clear hK K) | refine thn_ret ?_ | refine blk_ret ?_ | (refine thn_exit (K := K) ?_; clear hK K) | refine thn_exit ?_ | refine blk_here ?_ | refine blk_past rfl ?_ | refine thn_norm ?_ | refine blk_norm ?_ | refine CW.condT rfl ?_ | refine CW.condF rfl ?_ | (refine hK _ _ ?_; clear hK K))
    first | refine WL.step rfl ?_ | refine WL.gstep rfl rfl rfl rfl ?_
    refine OpW.call ((goes102 tag mb RA rcap cells d w h ha ho).mono ?_) rfl
    rintro v w1 ⟨rfl, k1, k2, h1, c1⟩
    have hf1 := begin_files d
    have t1 := h.toRef c1
    generalize hbg : d.begin = r at *
    obtain ⟨dn, e, d1⟩ := r
    simp only at h1 hf1 k1 k2
    subst k1
    have hadd := append_add (s := s) (b := b) hbg k2 (by rw [hf1]; exact hn)
    have hb1 : Sl w1 B (bvs b) := hb.keepN c1 fun hne a ha e => by
      have q := hB (bvs_ne hne) a ha
      rw [e, h.tg] at q; cases q
    repeat (first | refine WL.nil ?_ | refine WL.auto (h := ?_) | refine WL.gskip rfl rfl rfl rfl ?_ | refine WL.gskipU rfl rfl rfl rfl ?_ | refine WL.gauto (h := ?_) | (refine CW.seq ?_; intro K hK) | refine CW.block ?_ | refine CW.region ?_ | refine CW.skip ?_ | refine CW.exit ?_ | refine CW.ret ?_ | (refine thn_ret (K := K) ?_; clear hK K) | refine thn_ret ?_ | refine blk_ret ?_ | (refine thn_exit (K := K) ?_; clear hK K) | refine thn_exit ?_ | refine blk_here ?_ | refine blk_past rfl ?_ | refine thn_norm ?_ | refine blk_norm ?_ | refine CW.condT rfl ?_ | refine CW.condF rfl ?_ | (refine hK _ _ ?_; clear hK K))
    first | refine WL.step rfl ?_ | refine WL.gstep rfl rfl rfl rfl ?_
    refine OpW.call ((radd103 tag mb d1 s b B bcap w1 ⟨_, _, _, h1⟩ (by rw [hf1]; exact hn) hs hb1 hB hbl (by rw [hf1]; exact hd)).mono ?_) rfl
    rintro v w2 ⟨rfl, tag2, q1, q2, q3⟩
    have hW : WentR tag w w2 mb (d1.add s b).2 := ⟨tag2, fun k hk => q1 k (by have := c1.size; omega), q2, t1.andThen q3⟩
    generalize d1.add s b = r2 at *
    obtain ⟨e2, d2⟩ := r2
    simp only at hadd hW
    rcases k2 with rfl | rfl
    · repeat (first | refine WL.nil ?_ | refine WL.auto (h := ?_) | refine WL.gskip rfl rfl rfl rfl ?_ | refine WL.gskipU rfl rfl rfl rfl ?_ | refine WL.gauto (h := ?_) | (refine CW.seq ?_; intro K hK) | refine CW.block ?_ | refine CW.region ?_ | refine CW.skip ?_ | refine CW.exit ?_ | refine CW.ret ?_ | (refine thn_ret (K := K) ?_; clear hK K) | refine thn_ret ?_ | refine blk_ret ?_ | (refine thn_exit (K := K) ?_; clear hK K) | refine thn_exit ?_ | refine blk_here ?_ | refine blk_past rfl ?_ | refine thn_norm ?_ | refine blk_norm ?_ | refine CW.condT rfl ?_ | refine CW.condF rfl ?_ | (refine hK _ _ ?_; clear hK K))
      refine out1 (v := .int .i64 e2) Try.results83 rfl ?_ (Or.inr rfl)
      rw [hadd]
      exact ⟨rfl, hW⟩
    · repeat (first | refine WL.nil ?_ | refine WL.auto (h := ?_) | refine WL.gskip rfl rfl rfl rfl ?_ | refine WL.gskipU rfl rfl rfl rfl ?_ | refine WL.gauto (h := ?_) | (refine CW.seq ?_; intro K hK) | refine CW.block ?_ | refine CW.region ?_ | refine CW.skip ?_ | refine CW.exit ?_ | refine CW.ret ?_ | (refine thn_ret (K := K) ?_; clear hK K) | refine thn_ret ?_ | refine blk_ret ?_ | (refine thn_exit (K := K) ?_; clear hK K) | refine thn_exit ?_ | refine blk_here ?_ | refine blk_past rfl ?_ | refine thn_norm ?_ | refine blk_norm ?_ | refine CW.condT rfl ?_ | refine CW.condF rfl ?_ | (refine hK _ _ ?_; clear hK K))
      refine out1 (v := .int .i64 51) Try.results83 rfl ?_ (Or.inr rfl)
      rw [hadd]
      exact ⟨rfl, hW⟩

theorem rtruncate85 (tag : Nat → Tag) (mb : Nat) (RA : Option Addr) (rcap : Nat) (cells : List Value) (d : PD) (s : List UInt8) (n : Int) (w : World) (h : RefAt tag w mb RA rcap cells d) (ha : d.armed ≤ 9223372036854775807) (hn : d.files.length ≤ 16) :
    Ret Try.prog 85 #[.pointer (some ⟨mb, 0, none⟩), .string (bstr s), .int .i64 n] w fun v w' => v = .int .i64 (d.truncate s n).1 ∧ RefRep tag w' mb (d.truncate s n).2 ∧ Chg (fun b => (tag b).ref = true) w w' := by
  have hb := h.blk
  refine Ret.enter (fn := Try.f85) (N := 70) Try.func85 rfl Try.ntmps85 rfl ?_
  repeat (first | refine WL.nil ?_ | refine WL.auto (h := ?_) | refine WL.gskip rfl rfl rfl rfl ?_ | refine WL.gauto (h := ?_) | (refine CW.seq ?_; intro K hK) | refine CW.block ?_ | refine CW.region ?_ | refine CW.skip ?_ | refine CW.exit ?_ | refine CW.ret ?_ | (refine thn_ret (K := K) ?_; clear hK K) | refine thn_ret ?_ | refine blk_ret ?_ | (refine thn_exit (K := K) ?_; clear hK K) | refine thn_exit ?_ | refine blk_here ?_ | refine blk_past rfl ?_ | refine thn_norm ?_ | refine blk_norm ?_ | refine CW.condT rfl ?_ | refine CW.condF rfl ?_ | (refine hK _ _ ?_; clear hK K))
  cases ho : d.off with
  | true =>
    have e1 : d.truncate s n = (51, d) := by unfold PD.truncate; rw [begin_off ho]; rfl
    repeat (first | refine WL.nil ?_ | refine WL.auto (h := ?_) | refine WL.gskip rfl rfl rfl rfl ?_ | refine WL.gskipU rfl rfl rfl rfl ?_ | refine WL.gauto (h := ?_) | (refine CW.seq ?_; intro K hK) | refine CW.block ?_ | refine CW.region ?_ | refine CW.skip ?_ | refine CW.exit ?_ | refine CW.ret ?_ | (refine thn_ret (K := K) ?_; clear hK K) | refine thn_ret ?_ | refine blk_ret ?_ | (refine thn_exit (K := K) ?_; clear hK K) | refine thn_exit ?_ | refine blk_here ?_ | refine blk_past rfl ?_ | refine thn_norm ?_ | refine blk_norm ?_ | refine CW.condT rfl ?_ | refine CW.condF rfl ?_ | (refine hK _ _ ?_; clear hK K))
    refine out1 (v := .int .i64 51) Try.results85 rfl ?_ (Or.inr rfl)
    rw [e1]
    exact ⟨rfl, ⟨_, _, _, h⟩, Chg.refl _ _⟩
  | false =>
    repeat (first | refine WL.nil ?_ | refine WL.auto (h := ?_) | refine WL.gskip rfl rfl rfl rfl ?_ | refine WL.gskipU rfl rfl rfl rfl ?_ | refine WL.gauto (h := ?_) | (refine CW.seq ?_; intro K hK) | refine CW.block ?_ | refine CW.region ?_ | refine CW.skip ?_ | refine CW.exit ?_ | refine CW.ret ?_ | (refine thn_ret (K := K) ?_; clear hK K) | refine thn_ret ?_ | refine blk_ret ?_ | (refine thn_exit (K := K) ?_; clear hK K) | refine thn_exit ?_ | refine blk_here ?_ | refine blk_past rfl ?_ | refine thn_norm ?_ | refine blk_norm ?_ | refine CW.condT rfl ?_ | refine CW.condF rfl ?_ | (refine hK _ _ ?_; clear hK K))
    first | refine WL.step rfl ?_ | refine WL.gstep rfl rfl rfl rfl ?_
    refine OpW.call ((goes102 tag mb RA rcap cells d w h ha ho).mono ?_) rfl
    rintro v w1 ⟨rfl, k1, k2, h1, c1⟩
    have hf1 := begin_files d
    have t1 := h.toRef c1
    generalize hbg : d.begin = r at *
    obtain ⟨dn, e, d1⟩ := r
    simp only at h1 hf1 k1 k2
    rcases k2 with rfl | rfl
    · repeat (first | refine WL.nil ?_ | refine WL.auto (h := ?_) | refine WL.gskip rfl rfl rfl rfl ?_ | refine WL.gskipU rfl rfl rfl rfl ?_ | refine WL.gauto (h := ?_) | (refine CW.seq ?_; intro K hK) | refine CW.block ?_ | refine CW.region ?_ | refine CW.skip ?_ | refine CW.exit ?_ | refine CW.ret ?_ | (refine thn_ret (K := K) ?_; clear hK K) | refine thn_ret ?_ | refine blk_ret ?_ | (refine thn_exit (K := K) ?_; clear hK K) | refine thn_exit ?_ | refine blk_here ?_ | refine blk_past rfl ?_ | refine thn_norm ?_ | refine blk_norm ?_ | refine CW.condT rfl ?_ | refine CW.condF rfl ?_ | (refine hK _ _ ?_; clear hK K))
      first | refine WL.step rfl ?_ | refine WL.gstep rfl rfl rfl rfl ?_
      refine OpW.call ((find75 tag mb RA rcap cells d1 s w1 h1 (by rw [hf1]; omega)).mono ?_) rfl
      rintro v w2 ⟨g2, rfl⟩
      have h2 := h1.grow g2
      have hb2 := h2.blk
      repeat (first | refine WL.nil ?_ | refine WL.auto (h := ?_) | refine WL.gskip rfl rfl rfl rfl ?_ | refine WL.gskipU rfl rfl rfl rfl ?_ | refine WL.gauto (h := ?_) | (refine CW.seq ?_; intro K hK) | refine CW.block ?_ | refine CW.region ?_ | refine CW.skip ?_ | refine CW.exit ?_ | refine CW.ret ?_ | (refine thn_ret (K := K) ?_; clear hK K) | refine thn_ret ?_ | refine blk_ret ?_ | (refine thn_exit (K := K) ?_; clear hK K) | refine thn_exit ?_ | refine blk_here ?_ | refine blk_past rfl ?_ | refine thn_norm ?_ | refine blk_norm ?_ | refine CW.condT rfl ?_ | refine CW.condF rfl ?_ | (refine hK _ _ ?_; clear hK K))
      rw [ixInt_neg]
      cases hx : d1.ix s with
      | none =>
        have e1 : d.truncate s n = (50, d1) := by unfold PD.truncate; rw [hbg]; simp only; rw [if_neg (by simp), hx]
        repeat (first | refine WL.nil ?_ | refine WL.auto (h := ?_) | refine WL.gskip rfl rfl rfl rfl ?_ | refine WL.gskipU rfl rfl rfl rfl ?_ | refine WL.gauto (h := ?_) | (refine CW.seq ?_; intro K hK) | refine CW.block ?_ | refine CW.region ?_ | refine CW.skip ?_ | refine CW.exit ?_ | refine CW.ret ?_ | (refine thn_ret (K := K) ?_; clear hK K) | refine thn_ret ?_ | refine blk_ret ?_ | (refine thn_exit (K := K) ?_; clear hK K) | refine thn_exit ?_ | refine blk_here ?_ | refine blk_past rfl ?_ | refine thn_norm ?_ | refine blk_norm ?_ | refine CW.condT rfl ?_ | refine CW.condF rfl ?_ | (refine hK _ _ ?_; clear hK K))
        refine out1 (v := .int .i64 50) Try.results85 rfl ?_ (Or.inr rfl)
        rw [e1]
        exact ⟨rfl, ⟨_, _, _, h2⟩, t1.grow g2⟩
      | some i =>
        obtain ⟨f, hi, hname⟩ := ix_get hx
        have e1 : d.truncate s n = if n < 0 ∨ (f.data.length : Int) < n then (2, d1) else (0, { d1 with files := d1.files.set i { f with data := f.data.take n.toNat, safe := min f.safe n.toNat } }) := by
          unfold PD.truncate; rw [hbg]; simp only; rw [if_neg (by simp), hx]
          show (if n < 0 ∨ (((d1.files[i]?.map fun f => f.data.length).getD 0 : Nat) : Int) < n then ((2 : Int), d1) else (0, ({ d1 with files := d1.files.modify i fun f => { f with data := f.data.take n.toNat, safe := min f.safe n.toNat } } : PD))) = _
          rw [modify_set hi, hi]
          rfl
        obtain ⟨DA, cap, q0, q1, q2, q3, q4, q5, q6⟩ := h2.at_ hi
        have hsl := h2.own.sl
        have hil := (List.getElem?_eq_some_iff.1 hi).1
        by_cases hn0 : n < 0
        · rw [if_pos (Or.inl hn0)] at e1
          repeat (first | refine WL.nil ?_ | refine WL.auto (h := ?_) | refine WL.gskip rfl rfl rfl rfl ?_ | refine WL.gskipU rfl rfl rfl rfl ?_ | refine WL.gauto (h := ?_) | (refine CW.seq ?_; intro K hK) | refine CW.block ?_ | refine CW.region ?_ | refine CW.skip ?_ | refine CW.exit ?_ | refine CW.ret ?_ | (refine thn_ret (K := K) ?_; clear hK K) | refine thn_ret ?_ | refine blk_ret ?_ | (refine thn_exit (K := K) ?_; clear hK K) | refine thn_exit ?_ | refine blk_here ?_ | refine blk_past rfl ?_ | refine thn_norm ?_ | refine blk_norm ?_ | refine CW.condT rfl ?_ | refine CW.condF rfl ?_ | (refine hK _ _ ?_; clear hK K))
          rw [decide_eq_true hn0]
          repeat (first | refine WL.nil ?_ | refine WL.auto (h := ?_) | refine WL.gskip rfl rfl rfl rfl ?_ | refine WL.gskipU rfl rfl rfl rfl ?_ | refine WL.gauto (h := ?_) | (refine CW.seq ?_; intro K hK) | refine CW.block ?_ | refine CW.region ?_ | refine CW.skip ?_ | refine CW.exit ?_ | refine CW.ret ?_ | (refine thn_ret (K := K) ?_; clear hK K) | refine thn_ret ?_ | refine blk_ret ?_ | (refine thn_exit (K := K) ?_; clear hK K) | refine thn_exit ?_ | refine blk_here ?_ | refine blk_past rfl ?_ | refine thn_norm ?_ | refine blk_norm ?_ | refine CW.condT rfl ?_ | refine CW.condF rfl ?_ | (refine hK _ _ ?_; clear hK K))
          refine out1 (v := .int .i64 2) Try.results85 rfl ?_ (Or.inr rfl)
          rw [e1]
          exact ⟨rfl, ⟨_, _, _, h2⟩, t1.grow g2⟩
        by_cases hn1 : (f.data.length : Int) < n
        · rw [if_pos (Or.inr hn1)] at e1
          repeat (first | refine WL.nil ?_ | refine WL.auto (h := ?_) | refine WL.gskip rfl rfl rfl rfl ?_ | refine WL.gskipU rfl rfl rfl rfl ?_ | refine WL.gauto (h := ?_) | (refine CW.seq ?_; intro K hK) | refine CW.block ?_ | refine CW.region ?_ | refine CW.skip ?_ | refine CW.exit ?_ | refine CW.ret ?_ | (refine thn_ret (K := K) ?_; clear hK K) | refine thn_ret ?_ | refine blk_ret ?_ | (refine thn_exit (K := K) ?_; clear hK K) | refine thn_exit ?_ | refine blk_here ?_ | refine blk_past rfl ?_ | refine thn_norm ?_ | refine blk_norm ?_ | refine CW.condT rfl ?_ | refine CW.condF rfl ?_ | (refine hK _ _ ?_; clear hK K))
          rw [decide_eq_false hn0]
          repeat (first | refine WL.nil ?_ | refine WL.auto (h := ?_) | refine WL.gskip rfl rfl rfl rfl ?_ | refine WL.gskipU rfl rfl rfl rfl ?_ | refine WL.gauto (h := ?_) | (refine CW.seq ?_; intro K hK) | refine CW.block ?_ | refine CW.region ?_ | refine CW.skip ?_ | refine CW.exit ?_ | refine CW.ret ?_ | (refine thn_ret (K := K) ?_; clear hK K) | refine thn_ret ?_ | refine blk_ret ?_ | (refine thn_exit (K := K) ?_; clear hK K) | refine thn_exit ?_ | refine blk_here ?_ | refine blk_past rfl ?_ | refine thn_norm ?_ | refine blk_norm ?_ | refine CW.condT rfl ?_ | refine CW.condF rfl ?_ | (refine hK _ _ ?_; clear hK K))
          first | refine WL.step rfl ?_ | refine WL.gstep rfl rfl rfl rfl ?_
          refine OpW.indexAddr i rfl rfl rfl hil q4 q5 ?_
          repeat (first | refine WL.nil ?_ | refine WL.auto (h := ?_) | refine WL.gskip rfl rfl rfl rfl ?_ | refine WL.gskipU rfl rfl rfl rfl ?_ | refine WL.gauto (h := ?_) | (refine CW.seq ?_; intro K hK) | refine CW.block ?_ | refine CW.region ?_ | refine CW.skip ?_ | refine CW.exit ?_ | refine CW.ret ?_ | (refine thn_ret (K := K) ?_; clear hK K) | refine thn_ret ?_ | refine blk_ret ?_ | (refine thn_exit (K := K) ?_; clear hK K) | refine thn_exit ?_ | refine blk_here ?_ | refine blk_past rfl ?_ | refine thn_norm ?_ | refine blk_norm ?_ | refine CW.condT rfl ?_ | refine CW.condF rfl ?_ | (refine hK _ _ ?_; clear hK K))
          rw [decide_eq_true hn1]
          repeat (first | refine WL.nil ?_ | refine WL.auto (h := ?_) | refine WL.gskip rfl rfl rfl rfl ?_ | refine WL.gskipU rfl rfl rfl rfl ?_ | refine WL.gauto (h := ?_) | (refine CW.seq ?_; intro K hK) | refine CW.block ?_ | refine CW.region ?_ | refine CW.skip ?_ | refine CW.exit ?_ | refine CW.ret ?_ | (refine thn_ret (K := K) ?_; clear hK K) | refine thn_ret ?_ | refine blk_ret ?_ | (refine thn_exit (K := K) ?_; clear hK K) | refine thn_exit ?_ | refine blk_here ?_ | refine blk_past rfl ?_ | refine thn_norm ?_ | refine blk_norm ?_ | refine CW.condT rfl ?_ | refine CW.condF rfl ?_ | (refine hK _ _ ?_; clear hK K))
          refine out1 (v := .int .i64 2) Try.results85 rfl ?_ (Or.inr rfl)
          rw [e1]
          exact ⟨rfl, ⟨_, _, _, h2⟩, t1.grow g2⟩
        rw [if_neg (by omega)] at e1
        repeat (first | refine WL.nil ?_ | refine WL.auto (h := ?_) | refine WL.gskip rfl rfl rfl rfl ?_ | refine WL.gskipU rfl rfl rfl rfl ?_ | refine WL.gauto (h := ?_) | (refine CW.seq ?_; intro K hK) | refine CW.block ?_ | refine CW.region ?_ | refine CW.skip ?_ | refine CW.exit ?_ | refine CW.ret ?_ | (refine thn_ret (K := K) ?_; clear hK K) | refine thn_ret ?_ | refine blk_ret ?_ | (refine thn_exit (K := K) ?_; clear hK K) | refine thn_exit ?_ | refine blk_here ?_ | refine blk_past rfl ?_ | refine thn_norm ?_ | refine blk_norm ?_ | refine CW.condT rfl ?_ | refine CW.condF rfl ?_ | (refine hK _ _ ?_; clear hK K))
        rw [decide_eq_false hn0]
        repeat (first | refine WL.nil ?_ | refine WL.auto (h := ?_) | refine WL.gskip rfl rfl rfl rfl ?_ | refine WL.gskipU rfl rfl rfl rfl ?_ | refine WL.gauto (h := ?_) | (refine CW.seq ?_; intro K hK) | refine CW.block ?_ | refine CW.region ?_ | refine CW.skip ?_ | refine CW.exit ?_ | refine CW.ret ?_ | (refine thn_ret (K := K) ?_; clear hK K) | refine thn_ret ?_ | refine blk_ret ?_ | (refine thn_exit (K := K) ?_; clear hK K) | refine thn_exit ?_ | refine blk_here ?_ | refine blk_past rfl ?_ | refine thn_norm ?_ | refine blk_norm ?_ | refine CW.condT rfl ?_ | refine CW.condF rfl ?_ | (refine hK _ _ ?_; clear hK K))
        first | refine WL.step rfl ?_ | refine WL.gstep rfl rfl rfl rfl ?_
        refine OpW.indexAddr i rfl rfl rfl hil q4 q5 ?_
        repeat (first | refine WL.nil ?_ | refine WL.auto (h := ?_) | refine WL.gskip rfl rfl rfl rfl ?_ | refine WL.gskipU rfl rfl rfl rfl ?_ | refine WL.gauto (h := ?_) | (refine CW.seq ?_; intro K hK) | refine CW.block ?_ | refine CW.region ?_ | refine CW.skip ?_ | refine CW.exit ?_ | refine CW.ret ?_ | (refine thn_ret (K := K) ?_; clear hK K) | refine thn_ret ?_ | refine blk_ret ?_ | (refine thn_exit (K := K) ?_; clear hK K) | refine thn_exit ?_ | refine blk_here ?_ | refine blk_past rfl ?_ | refine thn_norm ?_ | refine blk_norm ?_ | refine CW.condT rfl ?_ | refine CW.condF rfl ?_ | (refine hK _ _ ?_; clear hK K))
        rw [decide_eq_false hn1]
        repeat (first | refine WL.nil ?_ | refine WL.auto (h := ?_) | refine WL.gskip rfl rfl rfl rfl ?_ | refine WL.gskipU rfl rfl rfl rfl ?_ | refine WL.gauto (h := ?_) | (refine CW.seq ?_; intro K hK) | refine CW.block ?_ | refine CW.region ?_ | refine CW.skip ?_ | refine CW.exit ?_ | refine CW.ret ?_ | (refine thn_ret (K := K) ?_; clear hK K) | refine thn_ret ?_ | refine blk_ret ?_ | (refine thn_exit (K := K) ?_; clear hK K) | refine thn_exit ?_ | refine blk_here ?_ | refine blk_past rfl ?_ | refine thn_norm ?_ | refine blk_norm ?_ | refine CW.condT rfl ?_ | refine CW.condF rfl ?_ | (refine hK _ _ ?_; clear hK K))
        refine CW.held2 17 (fun _ => False) (fun b => ∃ a, RA = some a ∧ a.block = b) (.take 0 (.take 1 (.take 2 (.take 3 (.take 4 (.take 5 (.take 6 (.take 7 (.take 8 (.take 9 (.take 10 (.take 11 (.take 12 (.take 13 (.take 14 (.take 15 (.take 16 (.one 17 .nil)))))))))))))))))) (fun _ h => h.elim) rfl (by kernel_rfl) (by kernel_rfl) (fun w3 g3 => ?_)
        repeat (first | refine AL2.autoU (hn := ?_) | refine AL2.auto (hn := ?_) | refine AL2.gskip rfl rfl rfl rfl rfl ?_ | refine AL2.goneSkip rfl rfl rfl rfl rfl rfl ?_ | refine AL2.gskipU rfl rfl rfl rfl rfl ?_ | refine AL2.goneSkipU rfl rfl rfl rfl rfl rfl ?_ | refine AL2.gautoU (hn := ?_) | refine AL2.gauto (hn := ?_) | refine AL2.oauto (hn := ?_))
        refine AL2.takeU rfl rfl rfl (fun w hg => OpW.indexAddr i rfl rfl rfl hil q4 q5 ⟨rfl, rfl⟩) ?_
        repeat (first | refine AL2.autoU (hn := ?_) | refine AL2.auto (hn := ?_) | refine AL2.gskip rfl rfl rfl rfl rfl ?_ | refine AL2.goneSkip rfl rfl rfl rfl rfl rfl ?_ | refine AL2.gskipU rfl rfl rfl rfl rfl ?_ | refine AL2.goneSkipU rfl rfl rfl rfl rfl rfl ?_ | refine AL2.gautoU (hn := ?_) | refine AL2.gauto (hn := ?_) | refine AL2.oauto (hn := ?_))
        refine AL2.takeU rfl rfl rfl (fun w hg => OpW.sliceHi n.toNat rfl rfl (by omega) (by have := q3.le; omega) ⟨rfl, rfl⟩) ?_
        refine AL2.takeU rfl rfl rfl (fun w hg => OpW.indexAddr i rfl rfl rfl hil q4 q5 ⟨rfl, rfl⟩) ?_
        repeat (first | refine AL2.autoU (hn := ?_) | refine AL2.auto (hn := ?_) | refine AL2.gskip rfl rfl rfl rfl rfl ?_ | refine AL2.goneSkip rfl rfl rfl rfl rfl rfl ?_ | refine AL2.gskipU rfl rfl rfl rfl rfl ?_ | refine AL2.goneSkipU rfl rfl rfl rfl rfl rfl ?_ | refine AL2.gautoU (hn := ?_) | refine AL2.gauto (hn := ?_) | refine AL2.oauto (hn := ?_))
        refine AL2.last0 rfl rfl ?_
        refine OpW.storeOwnK (q := i * 3 + 1) (v := .slice DA n.toNat cap) rfl rfl rfl (h2.own.grow g3) (by omega) (fun w4 o4 c4 _ => ⟨fun h => (h.mono fun k _ hk => hk.elim).andThen c4, ?_⟩)
        repeat (first | refine AL.nil ?_ | refine AL.auto (hn := ?_) | refine AL.gskip rfl rfl rfl rfl rfl ?_ | refine AL.goneSkip rfl rfl rfl rfl rfl ?_ | refine AL.gauto (hn := ?_) | refine AL.oauto (hn := ?_))
        have C24 := Grow.chg g3 c4
        have hlt : (f.data.take n.toNat).length = n.toNat := by simp; omega
        have dz : ∀ b, tag b = .rdata i → ¬ (∃ a, RA = some a ∧ a.block = b) := by
          rintro b hb ⟨a, ha, rfl⟩
          rw [(h2.own.in_ ha).1] at hb; cases hb
        have o3 := (q3.cut n.toNat cap (by omega) (by have := q3.le; omega) (Nat.le_refl _)).keep C24 dz
        rw [Nat.mul_one, bvs_take] at o3
        have h4 := h2.setFile (c := 1) (f' := { f with data := f.data.take n.toNat }) (DA := DA) (cap := cap) hi C24 (fun b hb => Or.inl hb) (by decide) o4 (by rw [q6]; simp only [List.set_cons_succ, List.set_cons_zero, hlt]) (by
          show Own w4 DA 5 1 (f.data.take n.toNat).length cap _ _
          rw [hlt]; exact o3)
        have hi4 : ({ d1 with files := d1.files.set i { f with data := f.data.take n.toNat } } : PD).files[i]? = some { f with data := f.data.take n.toNat } := List.getElem?_set_self hil
        have hil4 : i < ({ d1 with files := d1.files.set i { f with data := f.data.take n.toNat } } : PD).files.length := by simpa using hil
        have hb4 := h4.blk
        obtain ⟨DA4, cap4, y0, y1, y2, y3, y4, y5, y6⟩ := h4.at_ hi4
        have hsl4 := h4.own.sl
        clear hsl hb2 hb q0 q1 q2 
        repeat (first | refine WL.nil ?_ | refine WL.auto (h := ?_) | refine WL.gskip rfl rfl rfl rfl ?_ | refine WL.gskipU rfl rfl rfl rfl ?_ | refine WL.gauto (h := ?_) | (refine CW.seq ?_; intro K hK) | refine CW.block ?_ | refine CW.region ?_ | refine CW.skip ?_ | refine CW.exit ?_ | refine CW.ret ?_ | (refine thn_ret (K := K) ?_; clear hK K) | refine thn_ret ?_ | refine blk_ret ?_ | (refine thn_exit (K := K) ?_; clear hK K) | refine thn_exit ?_ | refine blk_here ?_ | refine blk_past rfl ?_ | refine thn_norm ?_ | refine blk_norm ?_ | refine CW.condT rfl ?_ | refine CW.condF rfl ?_ | (refine hK _ _ ?_; clear hK K))
        refine CW.held2 17 (fun _ => False) (fun b => ∃ a, RA = some a ∧ a.block = b) (.take 0 (.take 1 (.take 2 (.take 3 (.take 4 (.take 5 (.take 6 (.take 7 (.take 8 (.take 9 (.take 10 (.take 11 (.take 12 (.take 13 (.take 14 (.take 15 (.take 16 (.one 17 .nil)))))))))))))))))) (fun _ h => h.elim) rfl (by kernel_rfl) (by kernel_rfl) (fun w5 g5 => ?_)
        repeat (first | refine AL2.autoU (hn := ?_) | refine AL2.auto (hn := ?_) | refine AL2.gskip rfl rfl rfl rfl rfl ?_ | refine AL2.goneSkip rfl rfl rfl rfl rfl rfl ?_ | refine AL2.gskipU rfl rfl rfl rfl rfl ?_ | refine AL2.goneSkipU rfl rfl rfl rfl rfl rfl ?_ | refine AL2.gautoU (hn := ?_) | refine AL2.gauto (hn := ?_) | refine AL2.oauto (hn := ?_))
        refine AL2.takeU rfl rfl rfl (fun w hg => OpW.indexAddr i rfl rfl rfl hil4 y4 y5 ⟨rfl, rfl⟩) ?_
        repeat (first | refine AL2.autoU (hn := ?_) | refine AL2.auto (hn := ?_) | refine AL2.gskip rfl rfl rfl rfl rfl ?_ | refine AL2.goneSkip rfl rfl rfl rfl rfl rfl ?_ | refine AL2.gskipU rfl rfl rfl rfl rfl ?_ | refine AL2.goneSkipU rfl rfl rfl rfl rfl rfl ?_ | refine AL2.gautoU (hn := ?_) | refine AL2.gauto (hn := ?_) | refine AL2.oauto (hn := ?_))
        refine AL2.takeU rfl rfl rfl (fun w hg => OpW.indexAddr i rfl rfl rfl hil4 y4 y5 ⟨rfl, rfl⟩) ?_
        repeat (first | refine AL2.autoU (hn := ?_) | refine AL2.auto (hn := ?_) | refine AL2.gskip rfl rfl rfl rfl rfl ?_ | refine AL2.goneSkip rfl rfl rfl rfl rfl rfl ?_ | refine AL2.gskipU rfl rfl rfl rfl rfl ?_ | refine AL2.goneSkipU rfl rfl rfl rfl rfl rfl ?_ | refine AL2.gautoU (hn := ?_) | refine AL2.gauto (hn := ?_) | refine AL2.oauto (hn := ?_))
        have hm : (if n < (f.safe : Int) then n else (f.safe : Int)) = ((min f.safe n.toNat : Nat) : Int) := by split <;> omega
        refine AL2.last0 rfl rfl ?_
        refine OpW.storeOwnK (q := i * 3 + 2) (v := .int .i64 ((min f.safe n.toNat : Nat) : Int)) rfl (congrArg (Value.int .i64) hm) rfl (h4.own.grow g5) (by omega) (fun w6 o6 c6 _ => ⟨fun h => (h.mono fun k _ hk => hk.elim).andThen c6, ?_⟩)
        repeat (first | refine AL.nil ?_ | refine AL.auto (hn := ?_) | refine AL.gskip rfl rfl rfl rfl rfl ?_ | refine AL.goneSkip rfl rfl rfl rfl rfl ?_ | refine AL.gauto (hn := ?_) | refine AL.oauto (hn := ?_))
        repeat (first | refine WL.nil ?_ | refine WL.auto (h := ?_) | refine WL.gskip rfl rfl rfl rfl ?_ | refine WL.gauto (h := ?_) | (refine CW.seq ?_; intro K hK) | refine CW.block ?_ | refine CW.region ?_ | refine CW.skip ?_ | refine CW.exit ?_ | refine CW.ret ?_ | (refine thn_ret (K := K) ?_; clear hK K) | refine thn_ret ?_ | refine blk_ret ?_ | (refine thn_exit (K := K) ?_; clear hK K) | refine thn_exit ?_ | refine blk_here ?_ | refine blk_past rfl ?_ | refine thn_norm ?_ | refine blk_norm ?_ | refine CW.condT rfl ?_ | refine CW.condF rfl ?_ | (refine hK _ _ ?_; clear hK K))
        refine out1 (v := .int .i64 0) Try.results85 rfl ?_ (Or.inr rfl)
        rw [e1]
        have C46 := Grow.chg g5 c6
        have h6 := h4.setFile (c := 2) (f' := { f with data := f.data.take n.toNat, safe := min f.safe n.toNat }) (DA := DA4) (cap := cap4) hi4 C46 (fun b hb => Or.inl hb) (by decide) o6 (by rw [y6]; rfl) (y3.keep C46 dz)
        have hss : (d1.files.set i { f with data := f.data.take n.toNat }).set i { f with data := f.data.take n.toNat, safe := min f.safe n.toNat } = d1.files.set i { f with data := f.data.take n.toNat, safe := min f.safe n.toNat } := by simp
        refine ⟨rfl, ⟨RA, rcap, (cells.set (i * 3 + 1) (.slice DA n.toNat cap)).set (i * 3 + 2) (.int .i64 ((min f.safe n.toNat : Nat) : Int)), ?_⟩, (t1.grow g2).andThen ((C24.andThen C46).mono fun k _ hk => ?_)⟩
        · have h7 := h6
          simp only [hss] at h7
          exact h7
        · obtain ⟨a, ha, rfl⟩ := hk
          rw [(h2.own.in_ ha).1]; rfl
    · have e1 : d.truncate s n = (51, d1) := by unfold PD.truncate; rw [hbg]; simp only; rw [if_pos (by simp)]
      repeat (first | refine WL.nil ?_ | refine WL.auto (h := ?_) | refine WL.gskip rfl rfl rfl rfl ?_ | refine WL.gskipU rfl rfl rfl rfl ?_ | refine WL.gauto (h := ?_) | (refine CW.seq ?_; intro K hK) | refine CW.block ?_ | refine CW.region ?_ | refine CW.skip ?_ | refine CW.exit ?_ | refine CW.ret ?_ | (refine thn_ret (K := K) ?_; clear hK K) | refine thn_ret ?_ | refine blk_ret ?_ | (refine thn_exit (K := K) ?_; clear hK K) | refine thn_exit ?_ | refine blk_here ?_ | refine blk_past rfl ?_ | refine thn_norm ?_ | refine blk_norm ?_ | refine CW.condT rfl ?_ | refine CW.condF rfl ?_ | (refine hK _ _ ?_; clear hK K))
      refine out1 (v := .int .i64 51) Try.results85 rfl ?_ (Or.inr rfl)
      rw [e1]
      exact ⟨rfl, ⟨_, _, _, h1⟩, t1⟩
end B
end Go.Proofs.Ytlofcomnhecgfaa
