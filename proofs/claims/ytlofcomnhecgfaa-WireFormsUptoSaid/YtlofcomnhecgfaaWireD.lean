/- wire.Open and the number at a place of a reader. Sizes are bounded. -/
import Derived.Test.YtlofcomnhecgfaaWireC
namespace Go.Proofs.Ytlofcomnhecgfaa
namespace B
attribute [local irreducible] OpW WL CW Ret Sl Blk thn blk outOf
set_option linter.unusedVariables false
set_option linter.unusedSimpArgs false

/-- A reader at block rb: its bytes, its fault; its bytes lie in Z. -/
def Rd (w : World) (rb : Nat) (s : RS) (Z : Nat → Prop) : Prop :=
  ∃ A cap, Blk w rb #[.slice A s.1.length cap, .int .i64 s.2] 115 ∧ Sl w A (bvs s.1) ∧ (∀ a, A = some a → a.spot = none ∧ Z a.block ∧ a.block ≠ rb) ∧ s.1.length ≤ cap ∧ s.1.length ≤ 70368744177664
theorem Rd.keep {S : Nat → Prop} {w w' : World} {rb : Nat} {s : RS} {Z : Nat → Prop} (h : Rd w rb s Z) (hc : Chg S w w') (h1 : ¬ S rb) (h2 : ∀ b, Z b → ¬ S b) : Rd w' rb s Z := by
  obtain ⟨A, cap, g1, g2, g3, g4, g5⟩ := h
  exact ⟨A, cap, g1.keep hc h1, g2.keep hc fun a ha => h2 _ (g3 a ha).2.1, g3, g4, g5⟩
theorem Rd.grow {w w' : World} {rb : Nat} {s : RS} {Z : Nat → Prop} (h : Rd w rb s Z) (hc : Grow w w') : Rd w' rb s Z := h.keep hc (fun hf => hf) fun _ _ hf => hf
theorem Rd.mono {w : World} {rb : Nat} {s : RS} {Z Z' : Nat → Prop} (h : Rd w rb s Z) (hz : ∀ b, Z b → Z' b) : Rd w rb s Z' := by
  obtain ⟨A, cap, g1, g2, g3, g4, g5⟩ := h
  exact ⟨A, cap, g1, g2, fun a ha => ⟨(g3 a ha).1, hz _ (g3 a ha).2.1, (g3 a ha).2.2⟩, g4, g5⟩

theorem open43 (A : Option Addr) (cap : Nat) (l : List UInt8) (w : World) (hs : Sl w A (bvs l)) (hl : l.length ≤ 70368744177664) : Ret Try.prog 43 #[.slice A l.length cap] w fun v w' => ∃ rb, v = .pointer (some ⟨rb, 0, none⟩) ∧ Rd w' rb (l, 0) (fresh w) ∧ Grow w w' ∧ w.heap.size ≤ rb := by
  refine Ret.enter (fn := Try.f43) (N := 7) Try.func43 rfl Try.ntmps43 rfl ?_
  repeat (first | refine WL.nil ?_ | refine WL.auto (h := ?_) | refine WL.gskip rfl rfl rfl rfl ?_ | refine WL.gauto (h := ?_) | (refine CW.seq ?_; intro K hK) | refine CW.block ?_ | refine CW.region ?_ | refine CW.skip ?_ | refine CW.exit ?_ | refine CW.ret ?_ | (refine thn_ret (K := K) ?_; clear hK K) | refine thn_ret ?_ | refine blk_ret ?_ | (refine thn_exit (K := K) ?_; clear hK K) | refine thn_exit ?_ | refine blk_here ?_ | refine blk_past rfl ?_ | refine thn_norm ?_ | refine blk_norm ?_ | refine CW.condT rfl ?_ | refine CW.condF rfl ?_ | (refine hK _ _ ?_; clear hK K))
  refine WL.step rfl ?_
  refine OpW.call ((clone73 _ _ _ _ hs hl).mono ?_) rfl
  rintro v w1 ⟨A', cap', rfl, ho, hg⟩
  refine WL.step rfl ?_
  refine OpW.build (cells := #[.slice A' l.length cap', .int .i64 0]) rfl rfl ?_
  refine WL.step rfl ?_
  refine OpW.box (v := .agg #[.slice A' l.length cap', .int .i64 0]) rfl ?_
  intro b w2 hn
  repeat (first | refine WL.nil ?_ | refine WL.auto (h := ?_) | refine WL.gskip rfl rfl rfl rfl ?_ | refine WL.gauto (h := ?_) | (refine CW.seq ?_; intro K hK) | refine CW.block ?_ | refine CW.region ?_ | refine CW.skip ?_ | refine CW.exit ?_ | refine CW.ret ?_ | (refine thn_ret (K := K) ?_; clear hK K) | refine thn_ret ?_ | refine blk_ret ?_ | (refine thn_exit (K := K) ?_; clear hK K) | refine thn_exit ?_ | refine blk_here ?_ | refine blk_past rfl ?_ | refine thn_norm ?_ | refine blk_norm ?_ | refine CW.condT rfl ?_ | refine CW.condF rfl ?_ | (refine hK _ _ ?_; clear hK K))
  refine out1 (v := .pointer (some ⟨b, 0, none⟩)) Try.results43 rfl ?_ (Or.inr rfl)
  refine ⟨b, rfl, ⟨A', cap', hn.blk, (ho.grow hn.grow).sl, fun a ha => ⟨spot_own ho a ha, (ho.in_ ha).1, ?_⟩, ho.le, hl⟩, hg.then hn.grow, Nat.le_trans hg.size hn.fresh⟩
  have h1 := (ho.in_ ha).2
  have h2 := hn.fresh
  omega

theorem or_false_dec (p : Prop) [Decidable p] (h : p) : decide p = true := by simp [h]

theorem number76 (rb : Nat) (s : RS) (at' n : Nat) (Z : Nat → Prop) (w : World) (hr : Rd w rb s Z) (hn : n ≤ 8) (ha : at' ≤ 70368744177664) :
    Ret Try.prog 76 #[.pointer (some ⟨rb, 0, none⟩), .int .i64 (at' : Int), .int .i64 (n : Int)] w fun v w' => v = .tuple #[.int .u64 ((rNum s at' n).1 : Int), .bool (rNum s at' n).2.1] ∧ Rd w' rb (rNum s at' n).2.2 Z ∧ Chg (· = rb) w w' := by
  obtain ⟨L, bad⟩ := s
  obtain ⟨A, cap, hb, hs, hA, hcap, hL⟩ := hr
  simp only at hb hs hcap hL
  refine Ret.enter (fn := Try.f76) (N := 53) Try.func76 rfl Try.ntmps76 rfl ?_
  repeat (first | refine WL.nil ?_ | refine WL.auto (h := ?_) | refine WL.gskip rfl rfl rfl rfl ?_ | refine WL.gauto (h := ?_) | (refine CW.seq ?_; intro K hK) | refine CW.block ?_ | refine CW.region ?_ | refine CW.skip ?_ | refine CW.exit ?_ | refine CW.ret ?_ | (refine thn_ret (K := K) ?_; clear hK K) | refine thn_ret ?_ | refine blk_ret ?_ | (refine thn_exit (K := K) ?_; clear hK K) | refine thn_exit ?_ | refine blk_here ?_ | refine blk_past rfl ?_ | refine thn_norm ?_ | refine blk_norm ?_ | refine CW.condT rfl ?_ | refine CW.condF rfl ?_ | (refine hK _ _ ?_; clear hK K))
  refine CW.condP rfl (fun h1 => ?_) (fun h1 => ?_)
  · have e1 : rNum (L, bad) at' n = (0, false, (L, bad)) := by unfold rNum; rw [if_pos h1]
    repeat (first | refine WL.nil ?_ | refine WL.auto (h := ?_) | refine WL.gskip rfl rfl rfl rfl ?_ | refine WL.gauto (h := ?_) | (refine CW.seq ?_; intro K hK) | refine CW.block ?_ | refine CW.region ?_ | refine CW.skip ?_ | refine CW.exit ?_ | refine CW.ret ?_ | (refine thn_ret (K := K) ?_; clear hK K) | refine thn_ret ?_ | refine blk_ret ?_ | (refine thn_exit (K := K) ?_; clear hK K) | refine thn_exit ?_ | refine blk_here ?_ | refine blk_past rfl ?_ | refine thn_norm ?_ | refine blk_norm ?_ | refine CW.condT rfl ?_ | refine CW.condF rfl ?_ | (refine hK _ _ ?_; clear hK K))
    refine out2 (v1 := .int .u64 0) (v2 := .bool false) Try.results76 rfl rfl ?_ (Or.inr rfl)
    rw [e1]
    exact ⟨rfl, ⟨A, cap, hb, hs, hA, hcap, hL⟩, Chg.refl _ _⟩
  have hbad : ¬ (bad ≠ 0) := h1
  repeat (first | refine WL.nil ?_ | refine WL.auto (h := ?_) | refine WL.gskip rfl rfl rfl rfl ?_ | refine WL.gauto (h := ?_) | (refine CW.seq ?_; intro K hK) | refine CW.block ?_ | refine CW.region ?_ | refine CW.skip ?_ | refine CW.exit ?_ | refine CW.ret ?_ | (refine thn_ret (K := K) ?_; clear hK K) | refine thn_ret ?_ | refine blk_ret ?_ | (refine thn_exit (K := K) ?_; clear hK K) | refine thn_exit ?_ | refine blk_here ?_ | refine blk_past rfl ?_ | refine thn_norm ?_ | refine blk_norm ?_ | refine CW.condT rfl ?_ | refine CW.condF rfl ?_ | (refine hK _ _ ?_; clear hK K))
  refine CW.condP rfl (fun h2 => ?_) (fun h2 => ?_)
  · have e1 : rNum (L, bad) at' n = (0, false, (L, 20)) := by unfold rNum; rw [if_neg hbad, if_pos (show L.length < at' + n by omega)]
    repeat (first | refine WL.nil ?_ | refine WL.auto (h := ?_) | refine WL.gskip rfl rfl rfl rfl ?_ | refine WL.gauto (h := ?_) | (refine CW.seq ?_; intro K hK) | refine CW.block ?_ | refine CW.region ?_ | refine CW.skip ?_ | refine CW.exit ?_ | refine CW.ret ?_ | (refine thn_ret (K := K) ?_; clear hK K) | refine thn_ret ?_ | refine blk_ret ?_ | (refine thn_exit (K := K) ?_; clear hK K) | refine thn_exit ?_ | refine blk_here ?_ | refine blk_past rfl ?_ | refine thn_norm ?_ | refine blk_norm ?_ | refine CW.condT rfl ?_ | refine CW.condF rfl ?_ | (refine hK _ _ ?_; clear hK K))
    refine WL.step0 ?_
    refine OpW.store (v := .int _ _) rfl rfl rfl hb rfl (c' := #[_, _]) rfl ?_
    intro w1 hp hb1
    repeat (first | refine WL.nil ?_ | refine WL.auto (h := ?_) | refine WL.gskip rfl rfl rfl rfl ?_ | refine WL.gauto (h := ?_) | (refine CW.seq ?_; intro K hK) | refine CW.block ?_ | refine CW.region ?_ | refine CW.skip ?_ | refine CW.exit ?_ | refine CW.ret ?_ | (refine thn_ret (K := K) ?_; clear hK K) | refine thn_ret ?_ | refine blk_ret ?_ | (refine thn_exit (K := K) ?_; clear hK K) | refine thn_exit ?_ | refine blk_here ?_ | refine blk_past rfl ?_ | refine thn_norm ?_ | refine blk_norm ?_ | refine CW.condT rfl ?_ | refine CW.condF rfl ?_ | (refine hK _ _ ?_; clear hK K))
    refine out2 (v1 := .int .u64 0) (v2 := .bool false) Try.results76 rfl rfl ?_ (Or.inr rfl)
    rw [e1]
    exact ⟨rfl, ⟨A, cap, hb1, hs.keep hp.chg fun a ha => (hA a ha).2.2, hA, hcap, hL⟩, hp.chg⟩
  have h3 : ¬ (L.length < at' + n) := by omega
  have e1 : rNum (L, bad) at' n = (numOf ((L.drop at').take n), true, (L, bad)) := by unfold rNum; rw [if_neg hbad, if_neg h3]
  have hl : ((L.drop at').take n).length = n := by simp; omega
  repeat (first | refine WL.nil ?_ | refine WL.auto (h := ?_) | refine WL.gskip rfl rfl rfl rfl ?_ | refine WL.gauto (h := ?_) | (refine CW.seq ?_; intro K hK) | refine CW.block ?_ | refine CW.region ?_ | refine CW.skip ?_ | refine CW.exit ?_ | refine CW.ret ?_ | (refine thn_ret (K := K) ?_; clear hK K) | refine thn_ret ?_ | refine blk_ret ?_ | (refine thn_exit (K := K) ?_; clear hK K) | refine thn_exit ?_ | refine blk_here ?_ | refine blk_past rfl ?_ | refine thn_norm ?_ | refine blk_norm ?_ | refine CW.condT rfl ?_ | refine CW.condF rfl ?_ | (refine hK _ _ ?_; clear hK K))
  refine WL.step rfl ?_
  refine OpW.sliceLoHi at' (at' + n) rfl rfl rfl rfl (by omega) (by omega) (by omega) (fun a ha => (hA a ha).1) ?_
  intro B hB
  have hsB : Sl w B (bvs ((L.drop at').take n)) := by
    have h := (hs.drop' at' (fun a ha => (hA a ha).1) B (by rcases hB with ⟨h1, h2⟩ | h1; exact Or.inl ⟨h1, by rw [bvs_length]; omega⟩; exact Or.inr (by simpa using h1))).take n
    rwa [bvs_drop, bvs_take] at h
  rw [Nat.add_sub_cancel_left]
  repeat (first | refine WL.nil ?_ | refine WL.auto (h := ?_) | refine WL.gskip rfl rfl rfl rfl ?_ | refine WL.gauto (h := ?_) | (refine CW.seq ?_; intro K hK) | refine CW.block ?_ | refine CW.region ?_ | refine CW.skip ?_ | refine CW.exit ?_ | refine CW.ret ?_ | (refine thn_ret (K := K) ?_; clear hK K) | refine thn_ret ?_ | refine blk_ret ?_ | (refine thn_exit (K := K) ?_; clear hK K) | refine thn_exit ?_ | refine blk_here ?_ | refine blk_past rfl ?_ | refine thn_norm ?_ | refine blk_norm ?_ | refine CW.condT rfl ?_ | refine CW.condF rfl ?_ | (refine hK _ _ ?_; clear hK K))
  refine CW.loop (fun m e w2 => ∃ k, k ≤ n ∧ m = n - k ∧ Grow w w2 ∧ ∃ e0, e = upd (upd (upd (upd (upd e0 0 (.pointer (some ⟨rb, 0, none⟩))) 8 (.int .u64 (numOf (((L.drop at').take n).take k)))) 40 (.slice B n (cap - at'))) 41 (.int .i64 n)) 42 (.int .i64 k)) n ?_ ?_
  · exact ⟨0, by omega, by omega, Chg.refl _ _, rep5 rfl rfl rfl rfl rfl⟩
  rintro m e w2 ⟨k, hk, rfl, hg2, e0, rfl⟩ KJ hJ
  repeat (first | refine WL.nil ?_ | refine WL.auto (h := ?_) | refine WL.gskip rfl rfl rfl rfl ?_ | refine WL.gauto (h := ?_) | (refine CW.seq ?_; intro K hK) | refine CW.block ?_ | refine CW.region ?_ | refine CW.skip ?_ | refine CW.exit ?_ | refine CW.ret ?_ | (refine thn_ret (K := K) ?_; clear hK K) | refine thn_ret ?_ | refine blk_ret ?_ | (refine thn_exit (K := K) ?_; clear hK K) | refine thn_exit ?_ | refine blk_here ?_ | refine blk_past rfl ?_ | refine thn_norm ?_ | refine blk_norm ?_ | refine CW.condT rfl ?_ | refine CW.condF rfl ?_ | (refine hK _ _ ?_; clear hK K))
  refine CW.condP rfl (fun h4 => ?_) (fun h4 => ?_)
  · have hkn : k < n := by omega
    have hkl : k < ((L.drop at').take n).length := by omega
    have hb1 : k < (bvs ((L.drop at').take n)).length := by rw [bvs_length]; exact hkl
    have hlt : numOf (((L.drop at').take n).take k) < 2 ^ 56 := by
      have := numOf_lt (((L.drop at').take n).take k)
      refine Nat.lt_of_lt_of_le this ?_
      have hle : (((L.drop at').take n).take k).length ≤ 7 := by rw [List.length_take]; omega
      exact Nat.le_trans (Nat.pow_le_pow_right (by decide) hle) (by decide)
    have hsn : numOf (((L.drop at').take n).take (k + 1)) = 256 * numOf (((L.drop at').take n).take k) + (((L.drop at').take n)[k]).toNat := by
      rw [List.take_succ_eq_append_getElem hkl, numOf_snoc]
    repeat (first | refine WL.nil ?_ | refine WL.auto (h := ?_) | refine WL.gskip rfl rfl rfl rfl ?_ | refine WL.gauto (h := ?_) | (refine CW.seq ?_; intro K hK) | refine CW.block ?_ | refine CW.region ?_ | refine CW.skip ?_ | refine CW.exit ?_ | refine CW.ret ?_ | (refine thn_ret (K := K) ?_; clear hK K) | refine thn_ret ?_ | refine blk_ret ?_ | (refine thn_exit (K := K) ?_; clear hK K) | refine thn_exit ?_ | refine blk_here ?_ | refine blk_past rfl ?_ | refine thn_norm ?_ | refine blk_norm ?_ | refine CW.condT rfl ?_ | refine CW.condF rfl ?_ | (refine hK _ _ ?_; clear hK K))
    refine WL.step rfl ?_
    refine OpW.indexAddr k rfl rfl rfl hkn (sl_ne hsB hb1) (sl_sp hsB hb1) ?_
    refine WL.step rfl ?_
    refine OpW.loadS (v := bv ((L.drop at').take n)[k]) rfl (hsB.grow hg2) (by simpa using bvs_at hkl) ?_
    repeat (first | refine WL.nil ?_ | refine WL.auto (h := ?_) | refine WL.gskip rfl rfl rfl rfl ?_ | refine WL.gauto (h := ?_) | (refine CW.seq ?_; intro K hK) | refine CW.block ?_ | refine CW.region ?_ | refine CW.skip ?_ | refine CW.exit ?_ | refine CW.ret ?_ | (refine thn_ret (K := K) ?_; clear hK K) | refine thn_ret ?_ | refine blk_ret ?_ | (refine thn_exit (K := K) ?_; clear hK K) | refine thn_exit ?_ | refine blk_here ?_ | refine blk_past rfl ?_ | refine thn_norm ?_ | refine blk_norm ?_ | refine CW.condT rfl ?_ | refine CW.condF rfl ?_ | (refine hK _ _ ?_; clear hK K))
    refine WL.step rfl ?_
    refine OpW.shl8 rfl rfl hlt ?_
    repeat (first | refine WL.nil ?_ | refine WL.auto (h := ?_) | refine WL.gskip rfl rfl rfl rfl ?_ | refine WL.gauto (h := ?_) | (refine CW.seq ?_; intro K hK) | refine CW.block ?_ | refine CW.region ?_ | refine CW.skip ?_ | refine CW.exit ?_ | refine CW.ret ?_ | (refine thn_ret (K := K) ?_; clear hK K) | refine thn_ret ?_ | refine blk_ret ?_ | (refine thn_exit (K := K) ?_; clear hK K) | refine thn_exit ?_ | refine blk_here ?_ | refine blk_past rfl ?_ | refine thn_norm ?_ | refine blk_norm ?_ | refine CW.condT rfl ?_ | refine CW.condF rfl ?_ | (refine hK _ _ ?_; clear hK K))
    refine WL.step rfl ?_
    refine OpW.convU64 rfl ⟨by omega, by have := (((L.drop at').take n)[k]).toNat_lt; omega⟩ ?_
    refine WL.step rfl ?_
    refine OpW.orByte rfl rfl hlt ?_
    repeat (first | refine WL.nil ?_ | refine WL.auto (h := ?_) | refine WL.gskip rfl rfl rfl rfl ?_ | refine WL.gauto (h := ?_) | (refine CW.seq ?_; intro K hK) | refine CW.block ?_ | refine CW.region ?_ | refine CW.skip ?_ | refine CW.exit ?_ | refine CW.ret ?_ | (refine thn_ret (K := K) ?_; clear hK K) | refine thn_ret ?_ | refine blk_ret ?_ | (refine thn_exit (K := K) ?_; clear hK K) | refine thn_exit ?_ | refine blk_here ?_ | refine blk_past rfl ?_ | refine thn_norm ?_ | refine blk_norm ?_ | refine CW.condT rfl ?_ | refine CW.condF rfl ?_ | (refine hK _ _ ?_; clear hK K))
    exact hJ (n - (k + 1)) _ _ (by omega) ⟨k + 1, by omega, rfl, hg2, rep5 rfl (congrArg (Value.int .u64) (by rw [hsn])) rfl rfl rfl⟩
  · have hkk : k = n := by omega
    subst hkk
    repeat (first | refine WL.nil ?_ | refine WL.auto (h := ?_) | refine WL.gskip rfl rfl rfl rfl ?_ | refine WL.gauto (h := ?_) | (refine CW.seq ?_; intro K hK) | refine CW.block ?_ | refine CW.region ?_ | refine CW.skip ?_ | refine CW.exit ?_ | refine CW.ret ?_ | (refine thn_ret (K := K) ?_; clear hK K) | refine thn_ret ?_ | refine blk_ret ?_ | (refine thn_exit (K := K) ?_; clear hK K) | refine thn_exit ?_ | refine blk_here ?_ | refine blk_past rfl ?_ | refine thn_norm ?_ | refine blk_norm ?_ | refine CW.condT rfl ?_ | refine CW.condF rfl ?_ | (refine hK _ _ ?_; clear hK K))
    refine out2 (v1 := .int .u64 (numOf ((L.drop at').take k))) (v2 := .bool true) Try.results76 (congrArg (Value.int .u64) (by rw [List.take_of_length_le (by omega)])) rfl ?_ (Or.inr rfl)
    rw [e1]
    exact ⟨rfl, Rd.grow ⟨A, cap, hb, hs, hA, hcap, hL⟩ hg2, Chg.to hg2⟩
end B
end Go.Proofs.Ytlofcomnhecgfaa
