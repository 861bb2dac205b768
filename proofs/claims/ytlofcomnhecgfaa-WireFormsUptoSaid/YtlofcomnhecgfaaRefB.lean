/- The document's reader: it answers as the plain one. Sizes are bounded. -/
import Derived.Test.YtlofcomnhecgfaaWireE
import Derived.Test.YtlofcomnhecgfaaHeld
namespace Go.Proofs.Ytlofcomnhecgfaa
namespace B
attribute [local irreducible] OpW WL CW Ret Sl Blk thn blk outOf
set_option linter.unusedVariables false
set_option linter.unusedSimpArgs false

/-- The document's reader at block rb, its address known. -/
def RfA (w : World) (rb : Nat) (A : Option Addr) (cap : Nat) (L : List UInt8) (bad : Int) (Z : Nat → Prop) : Prop :=
  Blk w rb #[.slice A L.length cap, .int .i64 bad] 119 ∧ Sl w A (bvs L) ∧ (∀ a, A = some a → a.spot = none ∧ Z a.block ∧ a.block ≠ rb) ∧ L.length ≤ cap ∧ L.length ≤ 70368744177664
def Rf (w : World) (rb : Nat) (s : RS) (Z : Nat → Prop) : Prop := ∃ A cap, RfA w rb A cap s.1 s.2 Z
theorem RfA.keep {S : Nat → Prop} {w w' : World} {rb : Nat} {A : Option Addr} {cap : Nat} {L : List UInt8} {bad : Int} {Z : Nat → Prop} (h : RfA w rb A cap L bad Z) (hc : Chg S w w') (h1 : ¬ S rb) (h2 : ∀ b, Z b → ¬ S b) : RfA w' rb A cap L bad Z := by
  obtain ⟨g1, g2, g3, g4, g5⟩ := h
  exact ⟨g1.keep hc h1, g2.keep hc fun a ha => h2 _ (g3 a ha).2.1, g3, g4, g5⟩
theorem Rf.keep {S : Nat → Prop} {w w' : World} {rb : Nat} {s : RS} {Z : Nat → Prop} (h : Rf w rb s Z) (hc : Chg S w w') (h1 : ¬ S rb) (h2 : ∀ b, Z b → ¬ S b) : Rf w' rb s Z := by
  obtain ⟨A, cap, g⟩ := h
  exact ⟨A, cap, g.keep hc h1 h2⟩
theorem Rf.grow {w w' : World} {rb : Nat} {s : RS} {Z : Nat → Prop} (h : Rf w rb s Z) (hc : Grow w w') : Rf w' rb s Z := h.keep hc (fun hf => hf) fun _ _ hf => hf
theorem Rf.mono {w : World} {rb : Nat} {s : RS} {Z Z' : Nat → Prop} (h : Rf w rb s Z) (hz : ∀ b, Z b → Z' b) : Rf w rb s Z' := by
  obtain ⟨A, cap, g1, g2, g3, g4, g5⟩ := h
  exact ⟨A, cap, g1, g2, fun a ha => ⟨(g3 a ha).1, hz _ (g3 a ha).2.1, (g3 a ha).2.2⟩, g4, g5⟩
/-- Its two cells written anew over the same bytes. -/
theorem RfA.turn {w w' : World} {rb : Nat} {A : Option Addr} {cap : Nat} {L : List UInt8} {bad' : Int} {Z : Nat → Prop} (hs : Sl w A (bvs L)) (hA : ∀ a, A = some a → a.spot = none ∧ Z a.block ∧ a.block ≠ rb) (hcap : L.length ≤ cap) (hL : L.length ≤ 70368744177664) (hp : Chg (· = rb) w w') (hb : Blk w' rb #[.slice A L.length cap, .int .i64 bad'] 119) : RfA w' rb A cap L bad' Z :=
  ⟨hb, hs.keep hp fun a ha => (hA a ha).2.2, hA, hcap, hL⟩
theorem RfA.cut {w w' : World} {rb m : Nat} {L : List UInt8} {bad : Int} {A B : Option Addr} {cap : Nat} {Z : Nat → Prop} (hs : Sl w A (bvs L)) (hA : ∀ a, A = some a → a.spot = none ∧ Z a.block ∧ a.block ≠ rb) (hcap : L.length ≤ cap) (hL : L.length ≤ 70368744177664) (hm : m ≤ L.length) (hB : B = A ∧ cap = m ∨ B = at_ A (m * 1))
    (hp : Put w w' rb) (hb : Blk w' rb #[.slice B (L.length - m) (cap - m), .int .i64 bad] 119) : RfA w' rb B (cap - m) (L.drop m) bad Z := by
  have hs' : Sl w B (bvs (L.drop m)) := by
    rw [← bvs_drop]
    refine hs.drop' m (fun a ha => (hA a ha).1) B ?_
    rcases hB with ⟨h1, h2⟩ | h1
    · exact Or.inl ⟨h1, by rw [bvs_length]; omega⟩
    · exact Or.inr (by simpa using h1)
  have hB' : ∀ a, B = some a → a.spot = none ∧ Z a.block ∧ a.block ≠ rb := by
    intro b hb
    rcases hB with ⟨rfl, _⟩ | rfl
    · exact hA b hb
    · cases A with
      | none => simp [at_] at hb
      | some a => simp only [at_, Option.map_some, Option.some.injEq] at hb; subst hb; exact ⟨rfl, (hA a rfl).2⟩
  refine ⟨?_, hs'.keep hp.chg fun a ha => (hB' a ha).2.2, hB', ?_, ?_⟩
  · simpa using hb
  · simp; omega
  · simp; omega

theorem open50 (A : Option Addr) (cap : Nat) (l : List UInt8) (w : World) (hs : Sl w A (bvs l)) (hl : l.length ≤ 70368744177664) : Ret Try.prog 50 #[.slice A l.length cap] w fun v w' => ∃ rb, v = .pointer (some ⟨rb, 0, none⟩) ∧ Rf w' rb (l, 0) (fresh w) ∧ Grow w w' ∧ w.heap.size ≤ rb := by
  refine Ret.enter (fn := Try.f50) (N := 8) Try.func50 rfl Try.ntmps50 rfl ?_
  repeat (first | refine WL.nil ?_ | refine WL.auto (h := ?_) | refine WL.gskip rfl rfl rfl rfl ?_ | refine WL.gauto (h := ?_) | (refine CW.seq ?_; intro K hK) | refine CW.block ?_ | refine CW.region ?_ | refine CW.skip ?_ | refine CW.exit ?_ | refine CW.ret ?_ | (refine thn_ret (K := K) ?_; clear hK K) | refine thn_ret ?_ | refine blk_ret ?_ | (refine thn_exit (K := K) ?_; clear hK K) | refine thn_exit ?_ | refine blk_here ?_ | refine blk_past rfl ?_ | refine thn_norm ?_ | refine blk_norm ?_ | refine CW.condT rfl ?_ | refine CW.condF rfl ?_ | (refine hK _ _ ?_; clear hK K))
  first | refine WL.step rfl ?_ | refine WL.gstep rfl rfl rfl rfl ?_
  refine OpW.buildNone (fun b1 w1 n1 => ?_)
  repeat (first | refine WL.nil ?_ | refine WL.auto (h := ?_) | refine WL.gskip rfl rfl rfl rfl ?_ | refine WL.gauto (h := ?_) | (refine CW.seq ?_; intro K hK) | refine CW.block ?_ | refine CW.region ?_ | refine CW.skip ?_ | refine CW.exit ?_ | refine CW.ret ?_ | (refine thn_ret (K := K) ?_; clear hK K) | refine thn_ret ?_ | refine blk_ret ?_ | (refine thn_exit (K := K) ?_; clear hK K) | refine thn_exit ?_ | refine blk_here ?_ | refine blk_past rfl ?_ | refine thn_norm ?_ | refine blk_norm ?_ | refine CW.condT rfl ?_ | refine CW.condF rfl ?_ | (refine hK _ _ ?_; clear hK K))
  first | refine WL.step rfl ?_ | refine WL.gstep rfl rfl rfl rfl ?_
  refine OpW.appB (w0 := w) (l := []) (m := l) rfl rfl rfl rfl rfl rfl (Own.empty n1) (hs.grow n1.grow) n1.grow (by simp; omega) (fun A2 c2 w2 o2 g2 _ => ?_)
  rw [List.nil_append] at o2
  rw [List.nil_append]
  repeat (first | refine WL.nil ?_ | refine WL.auto (h := ?_) | refine WL.gskip rfl rfl rfl rfl ?_ | refine WL.gauto (h := ?_) | (refine CW.seq ?_; intro K hK) | refine CW.block ?_ | refine CW.region ?_ | refine CW.skip ?_ | refine CW.exit ?_ | refine CW.ret ?_ | (refine thn_ret (K := K) ?_; clear hK K) | refine thn_ret ?_ | refine blk_ret ?_ | (refine thn_exit (K := K) ?_; clear hK K) | refine thn_exit ?_ | refine blk_here ?_ | refine blk_past rfl ?_ | refine thn_norm ?_ | refine blk_norm ?_ | refine CW.condT rfl ?_ | refine CW.condF rfl ?_ | (refine hK _ _ ?_; clear hK K))
  first | refine WL.step rfl ?_ | refine WL.gstep rfl rfl rfl rfl ?_
  refine OpW.build (cells := #[.slice A2 l.length c2, .int .i64 0]) rfl rfl ?_
  repeat (first | refine WL.nil ?_ | refine WL.auto (h := ?_) | refine WL.gskip rfl rfl rfl rfl ?_ | refine WL.gauto (h := ?_) | (refine CW.seq ?_; intro K hK) | refine CW.block ?_ | refine CW.region ?_ | refine CW.skip ?_ | refine CW.exit ?_ | refine CW.ret ?_ | (refine thn_ret (K := K) ?_; clear hK K) | refine thn_ret ?_ | refine blk_ret ?_ | (refine thn_exit (K := K) ?_; clear hK K) | refine thn_exit ?_ | refine blk_here ?_ | refine blk_past rfl ?_ | refine thn_norm ?_ | refine blk_norm ?_ | refine CW.condT rfl ?_ | refine CW.condF rfl ?_ | (refine hK _ _ ?_; clear hK K))
  first | refine WL.step rfl ?_ | refine WL.gstep rfl rfl rfl rfl ?_
  refine OpW.box (v := .agg #[.slice A2 l.length c2, .int .i64 0]) rfl ?_
  intro b w3 hn
  repeat (first | refine WL.nil ?_ | refine WL.auto (h := ?_) | refine WL.gskip rfl rfl rfl rfl ?_ | refine WL.gauto (h := ?_) | (refine CW.seq ?_; intro K hK) | refine CW.block ?_ | refine CW.region ?_ | refine CW.skip ?_ | refine CW.exit ?_ | refine CW.ret ?_ | (refine thn_ret (K := K) ?_; clear hK K) | refine thn_ret ?_ | refine blk_ret ?_ | (refine thn_exit (K := K) ?_; clear hK K) | refine thn_exit ?_ | refine blk_here ?_ | refine blk_past rfl ?_ | refine thn_norm ?_ | refine blk_norm ?_ | refine CW.condT rfl ?_ | refine CW.condF rfl ?_ | (refine hK _ _ ?_; clear hK K))
  refine out1 (v := .pointer (some ⟨b, 0, none⟩)) Try.results50 rfl ?_ (Or.inr rfl)
  refine ⟨b, rfl, ⟨A2, c2, hn.blk, (o2.grow hn.grow).sl, fun a ha => ⟨spot_own o2 a ha, (o2.in_ ha).1, ?_⟩, o2.le, hl⟩, g2.then hn.grow, Nat.le_trans g2.size hn.fresh⟩
  have h1 := (o2.in_ ha).2
  have h2 := hn.fresh
  omega

theorem take100 (rb : Nat) (A : Option Addr) (cap : Nat) (L : List UInt8) (bad : Int) (Z : Nat → Prop) (n : Nat) (w : World) (hr : RfA w rb A cap L bad Z) (hn : n ≤ 70368744177664) :
    Ret Try.prog 100 #[.pointer (some ⟨rb, 0, none⟩), .int .i64 (n : Int)] w fun v w' => Chg (· = rb) w w' ∧
      ((bad ≠ 0 ∧ v = .tuple #[.slice none 0 0, .bool false] ∧ RfA w' rb A cap L bad Z) ∨ (bad = 0 ∧ L.length < n ∧ v = .tuple #[.slice none 0 0, .bool false] ∧ RfA w' rb A cap L 20 Z) ∨
        (bad = 0 ∧ n ≤ L.length ∧ v = .tuple #[.slice A n cap, .bool true] ∧ ∃ B, RfA w' rb B (cap - n) (L.drop n) 0 Z)) := by
  obtain ⟨hb, hs, hA, hcap, hL⟩ := hr
  refine Ret.enter (fn := Try.f100) (N := 38) Try.func100 rfl Try.ntmps100 rfl ?_
  repeat (first | refine WL.nil ?_ | refine WL.auto (h := ?_) | refine WL.gskip rfl rfl rfl rfl ?_ | refine WL.gauto (h := ?_) | (refine CW.seq ?_; intro K hK) | refine CW.block ?_ | refine CW.region ?_ | refine CW.skip ?_ | refine CW.exit ?_ | refine CW.ret ?_ | (refine thn_ret (K := K) ?_; clear hK K) | refine thn_ret ?_ | refine blk_ret ?_ | (refine thn_exit (K := K) ?_; clear hK K) | refine thn_exit ?_ | refine blk_here ?_ | refine blk_past rfl ?_ | refine thn_norm ?_ | refine blk_norm ?_ | refine CW.condT rfl ?_ | refine CW.condF rfl ?_ | (refine hK _ _ ?_; clear hK K))
  refine CW.condP rfl (fun h1 => ?_) (fun h1 => ?_)
  · repeat (first | refine WL.nil ?_ | refine WL.auto (h := ?_) | refine WL.gskip rfl rfl rfl rfl ?_ | refine WL.gauto (h := ?_) | (refine CW.seq ?_; intro K hK) | refine CW.block ?_ | refine CW.region ?_ | refine CW.skip ?_ | refine CW.exit ?_ | refine CW.ret ?_ | (refine thn_ret (K := K) ?_; clear hK K) | refine thn_ret ?_ | refine blk_ret ?_ | (refine thn_exit (K := K) ?_; clear hK K) | refine thn_exit ?_ | refine blk_here ?_ | refine blk_past rfl ?_ | refine thn_norm ?_ | refine blk_norm ?_ | refine CW.condT rfl ?_ | refine CW.condF rfl ?_ | (refine hK _ _ ?_; clear hK K))
    exact out2 (v1 := .slice none 0 0) (v2 := .bool false) Try.results100 rfl rfl ⟨Chg.refl _ _, Or.inl ⟨h1, rfl, hb, hs, hA, hcap, hL⟩⟩ (Or.inr rfl)
  have hbad : bad = 0 := by omega
  subst hbad
  repeat (first | refine WL.nil ?_ | refine WL.auto (h := ?_) | refine WL.gskip rfl rfl rfl rfl ?_ | refine WL.gauto (h := ?_) | (refine CW.seq ?_; intro K hK) | refine CW.block ?_ | refine CW.region ?_ | refine CW.skip ?_ | refine CW.exit ?_ | refine CW.ret ?_ | (refine thn_ret (K := K) ?_; clear hK K) | refine thn_ret ?_ | refine blk_ret ?_ | (refine thn_exit (K := K) ?_; clear hK K) | refine thn_exit ?_ | refine blk_here ?_ | refine blk_past rfl ?_ | refine thn_norm ?_ | refine blk_norm ?_ | refine CW.condT rfl ?_ | refine CW.condF rfl ?_ | (refine hK _ _ ?_; clear hK K))
  refine CW.condP rfl (fun h2 => ?_) (fun h2 => ?_)
  · repeat (first | refine WL.nil ?_ | refine WL.auto (h := ?_) | refine WL.gskip rfl rfl rfl rfl ?_ | refine WL.gauto (h := ?_) | (refine CW.seq ?_; intro K hK) | refine CW.block ?_ | refine CW.region ?_ | refine CW.skip ?_ | refine CW.exit ?_ | refine CW.ret ?_ | (refine thn_ret (K := K) ?_; clear hK K) | refine thn_ret ?_ | refine blk_ret ?_ | (refine thn_exit (K := K) ?_; clear hK K) | refine thn_exit ?_ | refine blk_here ?_ | refine blk_past rfl ?_ | refine thn_norm ?_ | refine blk_norm ?_ | refine CW.condT rfl ?_ | refine CW.condF rfl ?_ | (refine hK _ _ ?_; clear hK K))
    refine WL.step0 ?_
    refine OpW.store (v := .int _ _) rfl rfl rfl hb rfl (c' := #[_, _]) rfl ?_
    intro w1 hp hb1
    repeat (first | refine WL.nil ?_ | refine WL.auto (h := ?_) | refine WL.gskip rfl rfl rfl rfl ?_ | refine WL.gauto (h := ?_) | (refine CW.seq ?_; intro K hK) | refine CW.block ?_ | refine CW.region ?_ | refine CW.skip ?_ | refine CW.exit ?_ | refine CW.ret ?_ | (refine thn_ret (K := K) ?_; clear hK K) | refine thn_ret ?_ | refine blk_ret ?_ | (refine thn_exit (K := K) ?_; clear hK K) | refine thn_exit ?_ | refine blk_here ?_ | refine blk_past rfl ?_ | refine thn_norm ?_ | refine blk_norm ?_ | refine CW.condT rfl ?_ | refine CW.condF rfl ?_ | (refine hK _ _ ?_; clear hK K))
    exact out2 (v1 := .slice none 0 0) (v2 := .bool false) Try.results100 rfl rfl ⟨hp.chg, Or.inr (Or.inl ⟨rfl, by omega, rfl, RfA.turn hs hA hcap hL hp.chg hb1⟩)⟩ (Or.inr rfl)
  · repeat (first | refine WL.nil ?_ | refine WL.auto (h := ?_) | refine WL.gskip rfl rfl rfl rfl ?_ | refine WL.gauto (h := ?_) | (refine CW.seq ?_; intro K hK) | refine CW.block ?_ | refine CW.region ?_ | refine CW.skip ?_ | refine CW.exit ?_ | refine CW.ret ?_ | (refine thn_ret (K := K) ?_; clear hK K) | refine thn_ret ?_ | refine blk_ret ?_ | (refine thn_exit (K := K) ?_; clear hK K) | refine thn_exit ?_ | refine blk_here ?_ | refine blk_past rfl ?_ | refine thn_norm ?_ | refine blk_norm ?_ | refine CW.condT rfl ?_ | refine CW.condF rfl ?_ | (refine hK _ _ ?_; clear hK K))
    first | refine WL.step rfl ?_ | refine WL.gstep rfl rfl rfl rfl ?_
    refine OpW.sliceHi n rfl rfl rfl (by omega) ?_
    repeat (first | refine WL.nil ?_ | refine WL.auto (h := ?_) | refine WL.gskip rfl rfl rfl rfl ?_ | refine WL.gauto (h := ?_) | (refine CW.seq ?_; intro K hK) | refine CW.block ?_ | refine CW.region ?_ | refine CW.skip ?_ | refine CW.exit ?_ | refine CW.ret ?_ | (refine thn_ret (K := K) ?_; clear hK K) | refine thn_ret ?_ | refine blk_ret ?_ | (refine thn_exit (K := K) ?_; clear hK K) | refine thn_exit ?_ | refine blk_here ?_ | refine blk_past rfl ?_ | refine thn_norm ?_ | refine blk_norm ?_ | refine CW.condT rfl ?_ | refine CW.condF rfl ?_ | (refine hK _ _ ?_; clear hK K))
    first | refine WL.step rfl ?_ | refine WL.gstep rfl rfl rfl rfl ?_
    refine OpW.sliceLo n rfl rfl rfl (by omega) (fun a ha => (hA a ha).1) ?_
    intro B hB
    repeat (first | refine WL.nil ?_ | refine WL.auto (h := ?_) | refine WL.gskip rfl rfl rfl rfl ?_ | refine WL.gauto (h := ?_) | (refine CW.seq ?_; intro K hK) | refine CW.block ?_ | refine CW.region ?_ | refine CW.skip ?_ | refine CW.exit ?_ | refine CW.ret ?_ | (refine thn_ret (K := K) ?_; clear hK K) | refine thn_ret ?_ | refine blk_ret ?_ | (refine thn_exit (K := K) ?_; clear hK K) | refine thn_exit ?_ | refine blk_here ?_ | refine blk_past rfl ?_ | refine thn_norm ?_ | refine blk_norm ?_ | refine CW.condT rfl ?_ | refine CW.condF rfl ?_ | (refine hK _ _ ?_; clear hK K))
    refine WL.step0 ?_
    refine OpW.store (v := .slice _ _ _) rfl rfl rfl hb rfl (c' := #[_, _]) rfl ?_
    intro w2 hp hb2
    repeat (first | refine WL.nil ?_ | refine WL.auto (h := ?_) | refine WL.gskip rfl rfl rfl rfl ?_ | refine WL.gauto (h := ?_) | (refine CW.seq ?_; intro K hK) | refine CW.block ?_ | refine CW.region ?_ | refine CW.skip ?_ | refine CW.exit ?_ | refine CW.ret ?_ | (refine thn_ret (K := K) ?_; clear hK K) | refine thn_ret ?_ | refine blk_ret ?_ | (refine thn_exit (K := K) ?_; clear hK K) | refine thn_exit ?_ | refine blk_here ?_ | refine blk_past rfl ?_ | refine thn_norm ?_ | refine blk_norm ?_ | refine CW.condT rfl ?_ | refine CW.condF rfl ?_ | (refine hK _ _ ?_; clear hK K))
    exact out2 (v1 := .slice A n cap) (v2 := .bool true) Try.results100 rfl rfl ⟨hp.chg, Or.inr (Or.inr ⟨rfl, by omega, rfl, B, RfA.cut hs hA hcap hL (by omega) hB hp hb2⟩)⟩ (Or.inr rfl)

theorem number101 (A : Option Addr) (cap : Nat) (l : List UInt8) (w : World) (hs : Sl w A (bvs l)) (hl : l.length ≤ 8) : Ret Try.prog 101 #[.slice A l.length cap] w fun v w' => v = .int .u64 (numOf l : Int) ∧ Grow w w' := by
  refine Ret.enter (fn := Try.f101) (N := 20) Try.func101 rfl Try.ntmps101 rfl ?_
  repeat (first | refine WL.nil ?_ | refine WL.auto (h := ?_) | refine WL.gskip rfl rfl rfl rfl ?_ | refine WL.gauto (h := ?_) | (refine CW.seq ?_; intro K hK) | refine CW.block ?_ | refine CW.region ?_ | refine CW.skip ?_ | refine CW.exit ?_ | refine CW.ret ?_ | (refine thn_ret (K := K) ?_; clear hK K) | refine thn_ret ?_ | refine blk_ret ?_ | (refine thn_exit (K := K) ?_; clear hK K) | refine thn_exit ?_ | refine blk_here ?_ | refine blk_past rfl ?_ | refine thn_norm ?_ | refine blk_norm ?_ | refine CW.condT rfl ?_ | refine CW.condF rfl ?_ | (refine hK _ _ ?_; clear hK K))
  refine CW.loop (fun m e w2 => ∃ k, k ≤ l.length ∧ m = l.length - k ∧ Grow w w2 ∧ ∃ e0, e = upd (upd (upd e0 0 (.slice A l.length cap)) 3 (.int .u64 (numOf (l.take k)))) 4 (.int .i64 k)) l.length ?_ ?_
  · exact ⟨0, by omega, by omega, Chg.refl _ _, rep3 rfl rfl rfl⟩
  rintro m e w2 ⟨k, hk, rfl, hg2, e0, rfl⟩ KJ hJ
  repeat (first | refine WL.nil ?_ | refine WL.auto (h := ?_) | refine WL.gskip rfl rfl rfl rfl ?_ | refine WL.gauto (h := ?_) | (refine CW.seq ?_; intro K hK) | refine CW.block ?_ | refine CW.region ?_ | refine CW.skip ?_ | refine CW.exit ?_ | refine CW.ret ?_ | (refine thn_ret (K := K) ?_; clear hK K) | refine thn_ret ?_ | refine blk_ret ?_ | (refine thn_exit (K := K) ?_; clear hK K) | refine thn_exit ?_ | refine blk_here ?_ | refine blk_past rfl ?_ | refine thn_norm ?_ | refine blk_norm ?_ | refine CW.condT rfl ?_ | refine CW.condF rfl ?_ | (refine hK _ _ ?_; clear hK K))
  refine CW.condP rfl (fun h4 => ?_) (fun h4 => ?_)
  · have hkl : k < l.length := by omega
    have hb1 : k < (bvs l).length := by rw [bvs_length]; exact hkl
    have hlt : numOf (l.take k) < 2 ^ 56 := by
      have := numOf_lt (l.take k)
      refine Nat.lt_of_lt_of_le this ?_
      have hle : (l.take k).length ≤ 7 := by rw [List.length_take]; omega
      exact Nat.le_trans (Nat.pow_le_pow_right (by decide) hle) (by decide)
    have hsn : numOf (l.take (k + 1)) = 256 * numOf (l.take k) + l[k].toNat := by
      rw [List.take_succ_eq_append_getElem hkl, numOf_snoc]
    have hc := l[k].toNat_lt
    repeat (first | refine WL.nil ?_ | refine WL.auto (h := ?_) | refine WL.gskip rfl rfl rfl rfl ?_ | refine WL.gauto (h := ?_) | (refine CW.seq ?_; intro K hK) | refine CW.block ?_ | refine CW.region ?_ | refine CW.skip ?_ | refine CW.exit ?_ | refine CW.ret ?_ | (refine thn_ret (K := K) ?_; clear hK K) | refine thn_ret ?_ | refine blk_ret ?_ | (refine thn_exit (K := K) ?_; clear hK K) | refine thn_exit ?_ | refine blk_here ?_ | refine blk_past rfl ?_ | refine thn_norm ?_ | refine blk_norm ?_ | refine CW.condT rfl ?_ | refine CW.condF rfl ?_ | (refine hK _ _ ?_; clear hK K))
    first | refine WL.step rfl ?_ | refine WL.gstep rfl rfl rfl rfl ?_
    refine OpW.mul (k := .u64) rfl rfl ?_
    rw [wrap_u64 (by omega) (by omega)]
    repeat (first | refine WL.nil ?_ | refine WL.auto (h := ?_) | refine WL.gskip rfl rfl rfl rfl ?_ | refine WL.gauto (h := ?_) | (refine CW.seq ?_; intro K hK) | refine CW.block ?_ | refine CW.region ?_ | refine CW.skip ?_ | refine CW.exit ?_ | refine CW.ret ?_ | (refine thn_ret (K := K) ?_; clear hK K) | refine thn_ret ?_ | refine blk_ret ?_ | (refine thn_exit (K := K) ?_; clear hK K) | refine thn_exit ?_ | refine blk_here ?_ | refine blk_past rfl ?_ | refine thn_norm ?_ | refine blk_norm ?_ | refine CW.condT rfl ?_ | refine CW.condF rfl ?_ | (refine hK _ _ ?_; clear hK K))
    first | refine WL.step rfl ?_ | refine WL.gstep rfl rfl rfl rfl ?_
    refine OpW.indexAddr k rfl rfl rfl hkl (sl_ne hs hb1) (sl_sp hs hb1) ?_
    repeat (first | refine WL.nil ?_ | refine WL.auto (h := ?_) | refine WL.gskip rfl rfl rfl rfl ?_ | refine WL.gauto (h := ?_) | (refine CW.seq ?_; intro K hK) | refine CW.block ?_ | refine CW.region ?_ | refine CW.skip ?_ | refine CW.exit ?_ | refine CW.ret ?_ | (refine thn_ret (K := K) ?_; clear hK K) | refine thn_ret ?_ | refine blk_ret ?_ | (refine thn_exit (K := K) ?_; clear hK K) | refine thn_exit ?_ | refine blk_here ?_ | refine blk_past rfl ?_ | refine thn_norm ?_ | refine blk_norm ?_ | refine CW.condT rfl ?_ | refine CW.condF rfl ?_ | (refine hK _ _ ?_; clear hK K))
    first | refine WL.step rfl ?_ | refine WL.gstep rfl rfl rfl rfl ?_
    refine OpW.loadS (v := bv l[k]) rfl (hs.grow hg2) (by simpa using bvs_at hkl) ?_
    repeat (first | refine WL.nil ?_ | refine WL.auto (h := ?_) | refine WL.gskip rfl rfl rfl rfl ?_ | refine WL.gauto (h := ?_) | (refine CW.seq ?_; intro K hK) | refine CW.block ?_ | refine CW.region ?_ | refine CW.skip ?_ | refine CW.exit ?_ | refine CW.ret ?_ | (refine thn_ret (K := K) ?_; clear hK K) | refine thn_ret ?_ | refine blk_ret ?_ | (refine thn_exit (K := K) ?_; clear hK K) | refine thn_exit ?_ | refine blk_here ?_ | refine blk_past rfl ?_ | refine thn_norm ?_ | refine blk_norm ?_ | refine CW.condT rfl ?_ | refine CW.condF rfl ?_ | (refine hK _ _ ?_; clear hK K))
    exact hJ (l.length - (k + 1)) _ _ (by omega) ⟨k + 1, by omega, rfl, hg2, rep3 rfl (congrArg (Value.int .u64) (by rw [hsn]; omega)) (congrArg (Value.int .i64) (by omega))⟩
  · have hkk : k = l.length := by omega
    subst hkk
    repeat (first | refine WL.nil ?_ | refine WL.auto (h := ?_) | refine WL.gskip rfl rfl rfl rfl ?_ | refine WL.gauto (h := ?_) | (refine CW.seq ?_; intro K hK) | refine CW.block ?_ | refine CW.region ?_ | refine CW.skip ?_ | refine CW.exit ?_ | refine CW.ret ?_ | (refine thn_ret (K := K) ?_; clear hK K) | refine thn_ret ?_ | refine blk_ret ?_ | (refine thn_exit (K := K) ?_; clear hK K) | refine thn_exit ?_ | refine blk_here ?_ | refine blk_past rfl ?_ | refine thn_norm ?_ | refine blk_norm ?_ | refine CW.condT rfl ?_ | refine CW.condF rfl ?_ | (refine hK _ _ ?_; clear hK K))
    exact out1 (v := .int .u64 (numOf l)) Try.results101 (congrArg (Value.int .u64) (by rw [List.take_length])) ⟨rfl, hg2⟩ (Or.inr rfl)
end B
end Go.Proofs.Ytlofcomnhecgfaa
