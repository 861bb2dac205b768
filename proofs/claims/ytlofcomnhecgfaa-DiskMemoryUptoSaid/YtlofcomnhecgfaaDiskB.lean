/- begin, Arm, Down, Waiting of a disk. Sizes are bounded. -/
import Derived.Test.YtlofcomnhecgfaaDiskA
namespace Go.Proofs.Ytlofcomnhecgfaa
namespace B
attribute [local irreducible] OpW WL CW Ret Sl Blk thn blk outOf
set_option linter.unusedVariables false
set_option linter.unusedSimpArgs false
set_option maxRecDepth 4000

/-- An operation begins: is it done, what is answered, the disk behind it. -/
def PD.begin (d : PD) : Bool × Int × PD :=
  if d.off then (false, 51, d) else if 0 < d.armed then (if d.armed = 1 then (true, 51, { d with off := true, armed := 0 }) else (true, 0, { d with armed := d.armed - 1 })) else (true, 0, d)
theorem DiskAt.turn {tag : Nat → Tag} {w w' : World} {db : Nat} {FA : Option Addr} {fcap : Nat} {fs : List Nat} {d : PD} (h : DiskAt tag w db FA fcap fs d) (hc : Chg (· = db) w w') {off : Bool} {armed : Nat}
    (hb : Blk w' db #[.slice FA d.files.length fcap, .bool off, .int .i64 (armed : Int)] 102) : DiskAt tag w' db FA fcap fs { d with off := off, armed := armed } := by
  have h0 := h.tg
  refine ⟨h.tg, hb, h.own.keep hc fun b ht e => ?_, h.len, fun i f fb h1 h2 => ?_⟩
  · subst e; rw [h0] at ht; cases ht
  · obtain ⟨h3, h4⟩ := h.file i f fb h1 h2
    refine ⟨h3, h4.keep hc (fun e => ?_) fun b ht e => ?_⟩
    · subst e; rw [h0] at h3; cases h3
    · subst e; rw [h0] at ht; cases ht

theorem begin70 (tag : Nat → Tag) (db : Nat) (FA : Option Addr) (fcap : Nat) (fs : List Nat) (d : PD) (w : World) (h : DiskAt tag w db FA fcap fs d) (ha : d.armed ≤ 9223372036854775807) :
    Ret Try.prog 70 #[.pointer (some ⟨db, 0, none⟩)] w fun v w' => v = .tuple #[.bool d.begin.1, .int .i64 d.begin.2.1] ∧ DiskAt tag w' db FA fcap fs d.begin.2.2 ∧ Chg (· = db) w w' := by
  have hb := h.blk
  refine Ret.enter (fn := Try.f70) (N := 33) Try.func70 rfl Try.ntmps70 rfl ?_
  repeat (first | refine WL.nil ?_ | refine WL.auto (h := ?_) | refine WL.gskip rfl rfl rfl rfl ?_ | refine WL.gauto (h := ?_) | (refine CW.seq ?_; intro K hK) | refine CW.block ?_ | refine CW.region ?_ | refine CW.skip ?_ | refine CW.exit ?_ | refine CW.ret ?_ | (refine thn_ret (K := K) ?_; clear hK K) | refine thn_ret ?_ | refine blk_ret ?_ | (refine thn_exit (K := K) ?_; clear hK K) | refine thn_exit ?_ | refine blk_here ?_ | refine blk_past rfl ?_ | refine thn_norm ?_ | refine blk_norm ?_ | refine CW.condT rfl ?_ | refine CW.condF rfl ?_ | (refine hK _ _ ?_; clear hK K))
  refine CW.cond rfl (fun h1 => ?_) (fun h1 => ?_)
  · have e1 : d.begin = (false, 51, d) := by unfold PD.begin; rw [if_pos h1]
    repeat (first | refine WL.nil ?_ | refine WL.auto (h := ?_) | refine WL.gskip rfl rfl rfl rfl ?_ | refine WL.gauto (h := ?_) | (refine CW.seq ?_; intro K hK) | refine CW.block ?_ | refine CW.region ?_ | refine CW.skip ?_ | refine CW.exit ?_ | refine CW.ret ?_ | (refine thn_ret (K := K) ?_; clear hK K) | refine thn_ret ?_ | refine blk_ret ?_ | (refine thn_exit (K := K) ?_; clear hK K) | refine thn_exit ?_ | refine blk_here ?_ | refine blk_past rfl ?_ | refine thn_norm ?_ | refine blk_norm ?_ | refine CW.condT rfl ?_ | refine CW.condF rfl ?_ | (refine hK _ _ ?_; clear hK K))
    refine out2 (v1 := .bool false) (v2 := .int .i64 51) Try.results70 rfl rfl ?_ (Or.inr rfl)
    rw [e1]
    exact ⟨rfl, h, Chg.refl _ _⟩
  repeat (first | refine WL.nil ?_ | refine WL.auto (h := ?_) | refine WL.gskip rfl rfl rfl rfl ?_ | refine WL.gauto (h := ?_) | (refine CW.seq ?_; intro K hK) | refine CW.block ?_ | refine CW.region ?_ | refine CW.skip ?_ | refine CW.exit ?_ | refine CW.ret ?_ | (refine thn_ret (K := K) ?_; clear hK K) | refine thn_ret ?_ | refine blk_ret ?_ | (refine thn_exit (K := K) ?_; clear hK K) | refine thn_exit ?_ | refine blk_here ?_ | refine blk_past rfl ?_ | refine thn_norm ?_ | refine blk_norm ?_ | refine CW.condT rfl ?_ | refine CW.condF rfl ?_ | (refine hK _ _ ?_; clear hK K))
  refine CW.condP rfl (fun h2 => ?_) (fun h2 => ?_)
  · repeat (first | refine WL.nil ?_ | refine WL.auto (h := ?_) | refine WL.gskip rfl rfl rfl rfl ?_ | refine WL.gauto (h := ?_) | (refine CW.seq ?_; intro K hK) | refine CW.block ?_ | refine CW.region ?_ | refine CW.skip ?_ | refine CW.exit ?_ | refine CW.ret ?_ | (refine thn_ret (K := K) ?_; clear hK K) | refine thn_ret ?_ | refine blk_ret ?_ | (refine thn_exit (K := K) ?_; clear hK K) | refine thn_exit ?_ | refine blk_here ?_ | refine blk_past rfl ?_ | refine thn_norm ?_ | refine blk_norm ?_ | refine CW.condT rfl ?_ | refine CW.condF rfl ?_ | (refine hK _ _ ?_; clear hK K))
    refine WL.step0 ?_
    refine OpW.store (v := .int _ _) rfl rfl rfl hb rfl (c' := #[_, _, _]) rfl ?_
    intro w1 hp1 hb1
    repeat (first | refine WL.nil ?_ | refine WL.auto (h := ?_) | refine WL.gskip rfl rfl rfl rfl ?_ | refine WL.gauto (h := ?_) | (refine CW.seq ?_; intro K hK) | refine CW.block ?_ | refine CW.region ?_ | refine CW.skip ?_ | refine CW.exit ?_ | refine CW.ret ?_ | (refine thn_ret (K := K) ?_; clear hK K) | refine thn_ret ?_ | refine blk_ret ?_ | (refine thn_exit (K := K) ?_; clear hK K) | refine thn_exit ?_ | refine blk_here ?_ | refine blk_past rfl ?_ | refine thn_norm ?_ | refine blk_norm ?_ | refine CW.condT rfl ?_ | refine CW.condF rfl ?_ | (refine hK _ _ ?_; clear hK K))
    refine CW.condP rfl (fun h3 => ?_) (fun h3 => ?_)
    · have e1 : d.begin = (true, 51, { d with off := true, armed := 0 }) := by unfold PD.begin; rw [if_neg (by simp [h1]), if_pos (by omega), if_pos (by omega)]
      repeat (first | refine WL.nil ?_ | refine WL.auto (h := ?_) | refine WL.gskip rfl rfl rfl rfl ?_ | refine WL.gauto (h := ?_) | (refine CW.seq ?_; intro K hK) | refine CW.block ?_ | refine CW.region ?_ | refine CW.skip ?_ | refine CW.exit ?_ | refine CW.ret ?_ | (refine thn_ret (K := K) ?_; clear hK K) | refine thn_ret ?_ | refine blk_ret ?_ | (refine thn_exit (K := K) ?_; clear hK K) | refine thn_exit ?_ | refine blk_here ?_ | refine blk_past rfl ?_ | refine thn_norm ?_ | refine blk_norm ?_ | refine CW.condT rfl ?_ | refine CW.condF rfl ?_ | (refine hK _ _ ?_; clear hK K))
      refine WL.step0 ?_
      refine OpW.store (v := .bool _) rfl rfl rfl hb1 rfl (c' := #[_, _, _]) rfl ?_
      intro w2 hp2 hb2
      repeat (first | refine WL.nil ?_ | refine WL.auto (h := ?_) | refine WL.gskip rfl rfl rfl rfl ?_ | refine WL.gauto (h := ?_) | (refine CW.seq ?_; intro K hK) | refine CW.block ?_ | refine CW.region ?_ | refine CW.skip ?_ | refine CW.exit ?_ | refine CW.ret ?_ | (refine thn_ret (K := K) ?_; clear hK K) | refine thn_ret ?_ | refine blk_ret ?_ | (refine thn_exit (K := K) ?_; clear hK K) | refine thn_exit ?_ | refine blk_here ?_ | refine blk_past rfl ?_ | refine thn_norm ?_ | refine blk_norm ?_ | refine CW.condT rfl ?_ | refine CW.condF rfl ?_ | (refine hK _ _ ?_; clear hK K))
      refine out2 (v1 := .bool true) (v2 := .int .i64 51) Try.results70 rfl rfl ?_ (Or.inr rfl)
      rw [e1]
      rw [h3] at hb2
      exact ⟨rfl, h.turn (hp1.chg.andThen hp2.chg) hb2, hp1.chg.andThen hp2.chg⟩
    · have e1 : d.begin = (true, 0, { d with armed := d.armed - 1 }) := by unfold PD.begin; rw [if_neg (by simp [h1]), if_pos (by omega), if_neg (by omega)]
      repeat (first | refine WL.nil ?_ | refine WL.auto (h := ?_) | refine WL.gskip rfl rfl rfl rfl ?_ | refine WL.gauto (h := ?_) | (refine CW.seq ?_; intro K hK) | refine CW.block ?_ | refine CW.region ?_ | refine CW.skip ?_ | refine CW.exit ?_ | refine CW.ret ?_ | (refine thn_ret (K := K) ?_; clear hK K) | refine thn_ret ?_ | refine blk_ret ?_ | (refine thn_exit (K := K) ?_; clear hK K) | refine thn_exit ?_ | refine blk_here ?_ | refine blk_past rfl ?_ | refine thn_norm ?_ | refine blk_norm ?_ | refine CW.condT rfl ?_ | refine CW.condF rfl ?_ | (refine hK _ _ ?_; clear hK K))
      refine out2 (v1 := .bool true) (v2 := .int .i64 0) Try.results70 rfl rfl ?_ (Or.inr rfl)
      rw [e1]
      rw [show ((d.armed : Int) - 1) = ((d.armed - 1 : Nat) : Int) from by omega] at hb1
      exact ⟨rfl, h.turn (off := d.off) hp1.chg hb1, hp1.chg⟩
  · have e1 : d.begin = (true, 0, d) := by unfold PD.begin; rw [if_neg (by simp [h1]), if_neg (by omega)]
    repeat (first | refine WL.nil ?_ | refine WL.auto (h := ?_) | refine WL.gskip rfl rfl rfl rfl ?_ | refine WL.gauto (h := ?_) | (refine CW.seq ?_; intro K hK) | refine CW.block ?_ | refine CW.region ?_ | refine CW.skip ?_ | refine CW.exit ?_ | refine CW.ret ?_ | (refine thn_ret (K := K) ?_; clear hK K) | refine thn_ret ?_ | refine blk_ret ?_ | (refine thn_exit (K := K) ?_; clear hK K) | refine thn_exit ?_ | refine blk_here ?_ | refine blk_past rfl ?_ | refine thn_norm ?_ | refine blk_norm ?_ | refine CW.condT rfl ?_ | refine CW.condF rfl ?_ | (refine hK _ _ ?_; clear hK K))
    refine out2 (v1 := .bool true) (v2 := .int .i64 0) Try.results70 rfl rfl ?_ (Or.inr rfl)
    rw [e1]
    exact ⟨rfl, h, Chg.refl _ _⟩
theorem beginNil (w : World) : Ret Try.prog 70 #[.pointer none] w fun v w' => v = .tuple #[.bool false, .int .i64 1] ∧ Grow w w' := by
  refine Ret.enter (fn := Try.f70) (N := 33) Try.func70 rfl Try.ntmps70 rfl ?_
  repeat (first | refine WL.nil ?_ | refine WL.auto (h := ?_) | refine WL.gskip rfl rfl rfl rfl ?_ | refine WL.gauto (h := ?_) | (refine CW.seq ?_; intro K hK) | refine CW.block ?_ | refine CW.region ?_ | refine CW.skip ?_ | refine CW.exit ?_ | refine CW.ret ?_ | (refine thn_ret (K := K) ?_; clear hK K) | refine thn_ret ?_ | refine blk_ret ?_ | (refine thn_exit (K := K) ?_; clear hK K) | refine thn_exit ?_ | refine blk_here ?_ | refine blk_past rfl ?_ | refine thn_norm ?_ | refine blk_norm ?_ | refine CW.condT rfl ?_ | refine CW.condF rfl ?_ | (refine hK _ _ ?_; clear hK K))
  exact out2 (v1 := .bool false) (v2 := .int .i64 1) Try.results70 rfl rfl ⟨rfl, Chg.refl _ _⟩ (Or.inr rfl)

theorem down34 (tag : Nat → Tag) (db : Nat) (FA : Option Addr) (fcap : Nat) (fs : List Nat) (d : PD) (w : World) (h : DiskAt tag w db FA fcap fs d) : Ret Try.prog 34 #[.pointer (some ⟨db, 0, none⟩)] w fun v w' => v = .bool d.off ∧ Grow w w' := by
  have hb := h.blk
  refine Ret.enter (fn := Try.f34) (N := 11) Try.func34 rfl Try.ntmps34 rfl ?_
  repeat (first | refine WL.nil ?_ | refine WL.auto (h := ?_) | refine WL.gskip rfl rfl rfl rfl ?_ | refine WL.gskipU rfl rfl rfl rfl ?_ | refine WL.gauto (h := ?_) | (refine CW.seq ?_; intro K hK) | refine CW.block ?_ | refine CW.region ?_ | refine CW.skip ?_ | refine CW.exit ?_ | refine CW.ret ?_ | (refine thn_ret (K := K) ?_; clear hK K) | refine thn_ret ?_ | refine blk_ret ?_ | (refine thn_exit (K := K) ?_; clear hK K) | refine thn_exit ?_ | refine blk_here ?_ | refine blk_past rfl ?_ | refine thn_norm ?_ | refine blk_norm ?_ | refine CW.condT rfl ?_ | refine CW.condF rfl ?_ | (refine hK _ _ ?_; clear hK K))
  exact out1 Try.results34 rfl ⟨rfl, Chg.refl _ _⟩ (Or.inr rfl)
theorem downNil (w : World) : Ret Try.prog 34 #[.pointer none] w fun v w' => v = .bool false ∧ Grow w w' := by
  refine Ret.enter (fn := Try.f34) (N := 11) Try.func34 rfl Try.ntmps34 rfl ?_
  repeat (first | refine WL.nil ?_ | refine WL.auto (h := ?_) | refine WL.gskip rfl rfl rfl rfl ?_ | refine WL.gskipU rfl rfl rfl rfl ?_ | refine WL.gauto (h := ?_) | (refine CW.seq ?_; intro K hK) | refine CW.block ?_ | refine CW.region ?_ | refine CW.skip ?_ | refine CW.exit ?_ | refine CW.ret ?_ | (refine thn_ret (K := K) ?_; clear hK K) | refine thn_ret ?_ | refine blk_ret ?_ | (refine thn_exit (K := K) ?_; clear hK K) | refine thn_exit ?_ | refine blk_here ?_ | refine blk_past rfl ?_ | refine thn_norm ?_ | refine blk_norm ?_ | refine CW.condT rfl ?_ | refine CW.condF rfl ?_ | (refine hK _ _ ?_; clear hK K))
  exact out1 (v := .bool false) Try.results34 rfl ⟨rfl, Chg.refl _ _⟩ (Or.inr rfl)

def PD.arm (d : PD) (n : Int) : PD := if d.off then d else { d with armed := n.toNat }
theorem arm32 (tag : Nat → Tag) (db : Nat) (FA : Option Addr) (fcap : Nat) (fs : List Nat) (d : PD) (n : Int) (w : World) (h : DiskAt tag w db FA fcap fs d) :
    Ret Try.prog 32 #[.pointer (some ⟨db, 0, none⟩), .int .i64 n] w fun v w' => DiskAt tag w' db FA fcap fs (d.arm n) ∧ Chg (· = db) w w' := by
  have hb := h.blk
  refine Ret.enter (fn := Try.f32) (N := 18) Try.func32 rfl Try.ntmps32 rfl ?_
  repeat (first | refine WL.nil ?_ | refine WL.auto (h := ?_) | refine WL.gskip rfl rfl rfl rfl ?_ | refine WL.gskipU rfl rfl rfl rfl ?_ | refine WL.gauto (h := ?_) | (refine CW.seq ?_; intro K hK) | refine CW.block ?_ | refine CW.region ?_ | refine CW.skip ?_ | refine CW.exit ?_ | refine CW.ret ?_ | (refine thn_ret (K := K) ?_; clear hK K) | refine thn_ret ?_ | refine blk_ret ?_ | (refine thn_exit (K := K) ?_; clear hK K) | refine thn_exit ?_ | refine blk_here ?_ | refine blk_past rfl ?_ | refine thn_norm ?_ | refine blk_norm ?_ | refine CW.condT rfl ?_ | refine CW.condF rfl ?_ | (refine hK _ _ ?_; clear hK K))
  refine CW.cond rfl (fun h1 => ?_) (fun h1 => ?_)
  · have h2 : d.off = false := by simpa using h1
    have e1 : d.arm n = { d with armed := n.toNat } := by unfold PD.arm; rw [if_neg (by simp [h2])]
    repeat (first | refine WL.nil ?_ | refine WL.auto (h := ?_) | refine WL.gskip rfl rfl rfl rfl ?_ | refine WL.gauto (h := ?_) | (refine CW.seq ?_; intro K hK) | refine CW.block ?_ | refine CW.region ?_ | refine CW.skip ?_ | refine CW.exit ?_ | refine CW.ret ?_ | (refine thn_ret (K := K) ?_; clear hK K) | refine thn_ret ?_ | refine blk_ret ?_ | (refine thn_exit (K := K) ?_; clear hK K) | refine thn_exit ?_ | refine blk_here ?_ | refine blk_past rfl ?_ | refine thn_norm ?_ | refine blk_norm ?_ | refine CW.condT rfl ?_ | refine CW.condF rfl ?_ | (refine hK _ _ ?_; clear hK K))
    refine WL.step0 ?_
    refine OpW.store (v := .int _ _) rfl rfl rfl hb rfl (c' := #[_, _, _]) rfl ?_
    intro w1 hp1 hb1
    repeat (first | refine WL.nil ?_ | refine WL.auto (h := ?_) | refine WL.gskip rfl rfl rfl rfl ?_ | refine WL.gauto (h := ?_) | (refine CW.seq ?_; intro K hK) | refine CW.block ?_ | refine CW.region ?_ | refine CW.skip ?_ | refine CW.exit ?_ | refine CW.ret ?_ | (refine thn_ret (K := K) ?_; clear hK K) | refine thn_ret ?_ | refine blk_ret ?_ | (refine thn_exit (K := K) ?_; clear hK K) | refine thn_exit ?_ | refine blk_here ?_ | refine blk_past rfl ?_ | refine thn_norm ?_ | refine blk_norm ?_ | refine CW.condT rfl ?_ | refine CW.condF rfl ?_ | (refine hK _ _ ?_; clear hK K))
    refine out0 Try.results32 ?_ (Or.inl rfl)
    rw [e1]
    rw [show (if n > 0 then n else 0) = ((n.toNat : Nat) : Int) from by split <;> omega] at hb1
    exact ⟨h.turn (off := d.off) hp1.chg hb1, hp1.chg⟩
  · have h2 : d.off = true := by simpa using h1
    have e1 : d.arm n = d := by unfold PD.arm; rw [if_pos h2]
    repeat (first | refine WL.nil ?_ | refine WL.auto (h := ?_) | refine WL.gskip rfl rfl rfl rfl ?_ | refine WL.gauto (h := ?_) | (refine CW.seq ?_; intro K hK) | refine CW.block ?_ | refine CW.region ?_ | refine CW.skip ?_ | refine CW.exit ?_ | refine CW.ret ?_ | (refine thn_ret (K := K) ?_; clear hK K) | refine thn_ret ?_ | refine blk_ret ?_ | (refine thn_exit (K := K) ?_; clear hK K) | refine thn_exit ?_ | refine blk_here ?_ | refine blk_past rfl ?_ | refine thn_norm ?_ | refine blk_norm ?_ | refine CW.condT rfl ?_ | refine CW.condF rfl ?_ | (refine hK _ _ ?_; clear hK K))
    refine out0 Try.results32 ?_ (Or.inl rfl)
    rw [e1]
    exact ⟨h, Chg.refl _ _⟩
end B
end Go.Proofs.Ytlofcomnhecgfaa
