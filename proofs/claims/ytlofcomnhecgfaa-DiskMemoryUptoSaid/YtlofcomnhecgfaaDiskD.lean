/- Sync and Read of a disk. Sizes are bounded. -/
import Derived.Test.YtlofcomnhecgfaaDiskC
namespace Go.Proofs.Ytlofcomnhecgfaa
namespace B
attribute [local irreducible] OpW WL CW Ret Sl Blk thn blk outOf
set_option linter.unusedVariables false
set_option linter.unusedSimpArgs false
set_option maxRecDepth 4000

theorem begin_files (d : PD) : d.begin.2.2.files = d.files := by unfold PD.begin; split <;> (try split) <;> (try split) <;> rfl
theorem DiskAt.toImpl {tag : Nat → Tag} {w a c : World} {db : Nat} {FA : Option Addr} {fcap : Nat} {fs : List Nat} {d : PD} (h : DiskAt tag w db FA fcap fs d) (hc : Chg (· = db) a c) : Chg (fun b => (tag b).impl = true) a c :=
  hc.mono fun k _ e => by subst e; rw [h.tg]; rfl

def PD.sync (d : PD) (s : List UInt8) : Int × PD :=
  let r := d.begin
  if r.2.1 ≠ 0 then (r.2.1, r.2.2) else
    match r.2.2.ix s with
    | none => (50, r.2.2)
    | some i => (0, { r.2.2 with files := r.2.2.files.modify i fun f => { f with safe := f.data.length } })
theorem sync41 (tag : Nat → Tag) (db : Nat) (FA : Option Addr) (fcap : Nat) (fs : List Nat) (d : PD) (s : List UInt8) (w : World) (h : DiskAt tag w db FA fcap fs d) (ha : d.armed ≤ 9223372036854775807) (hn : d.files.length ≤ 16) :
    Ret Try.prog 41 #[.pointer (some ⟨db, 0, none⟩), .string (bstr s)] w fun v w' => v = .int .i64 (d.sync s).1 ∧ DiskAt tag w' db FA fcap fs (d.sync s).2 ∧ Chg (fun b => (tag b).impl = true) w w' := by
  refine Ret.enter (fn := Try.f41) (N := 29) Try.func41 rfl Try.ntmps41 rfl ?_
  repeat (first | refine WL.nil ?_ | refine WL.auto (h := ?_) | refine WL.gskip rfl rfl rfl rfl ?_ | refine WL.gauto (h := ?_) | (refine CW.seq ?_; intro K hK) | refine CW.block ?_ | refine CW.region ?_ | refine CW.skip ?_ | refine CW.exit ?_ | refine CW.ret ?_ | (refine thn_ret (K := K) ?_; clear hK K) | refine thn_ret ?_ | refine blk_ret ?_ | (refine thn_exit (K := K) ?_; clear hK K) | refine thn_exit ?_ | refine blk_here ?_ | refine blk_past rfl ?_ | refine thn_norm ?_ | refine blk_norm ?_ | refine CW.condT rfl ?_ | refine CW.condF rfl ?_ | (refine hK _ _ ?_; clear hK K))
  first | refine WL.step rfl ?_ | refine WL.gstep rfl rfl rfl rfl ?_
  refine OpW.call ((begin70 tag db FA fcap fs d w h ha).mono ?_) rfl
  rintro v w1 ⟨rfl, h1, c1⟩
  have hf1 := begin_files d
  have t1 := h.toImpl c1
  generalize hbg : d.begin = r at *
  obtain ⟨dn, e, d1⟩ := r
  simp only at h1 hf1
  repeat (first | refine WL.nil ?_ | refine WL.auto (h := ?_) | refine WL.gskip rfl rfl rfl rfl ?_ | refine WL.gauto (h := ?_) | (refine CW.seq ?_; intro K hK) | refine CW.block ?_ | refine CW.region ?_ | refine CW.skip ?_ | refine CW.exit ?_ | refine CW.ret ?_ | (refine thn_ret (K := K) ?_; clear hK K) | refine thn_ret ?_ | refine blk_ret ?_ | (refine thn_exit (K := K) ?_; clear hK K) | refine thn_exit ?_ | refine blk_here ?_ | refine blk_past rfl ?_ | refine thn_norm ?_ | refine blk_norm ?_ | refine CW.condT rfl ?_ | refine CW.condF rfl ?_ | (refine hK _ _ ?_; clear hK K))
  refine CW.condP rfl (fun he => ?_) (fun he => ?_)
  · have e1 : d.sync s = (e, d1) := by unfold PD.sync; rw [hbg]; simp only; rw [if_pos he]
    repeat (first | refine WL.nil ?_ | refine WL.auto (h := ?_) | refine WL.gskip rfl rfl rfl rfl ?_ | refine WL.gauto (h := ?_) | (refine CW.seq ?_; intro K hK) | refine CW.block ?_ | refine CW.region ?_ | refine CW.skip ?_ | refine CW.exit ?_ | refine CW.ret ?_ | (refine thn_ret (K := K) ?_; clear hK K) | refine thn_ret ?_ | refine blk_ret ?_ | (refine thn_exit (K := K) ?_; clear hK K) | refine thn_exit ?_ | refine blk_here ?_ | refine blk_past rfl ?_ | refine thn_norm ?_ | refine blk_norm ?_ | refine CW.condT rfl ?_ | refine CW.condF rfl ?_ | (refine hK _ _ ?_; clear hK K))
    refine out1 (v := .int .i64 e) Try.results41 rfl ?_ (Or.inr rfl)
    rw [e1]
    exact ⟨rfl, h1, t1⟩
  have he0 : e = 0 := by simpa using he
  subst he0
  repeat (first | refine WL.nil ?_ | refine WL.auto (h := ?_) | refine WL.gskip rfl rfl rfl rfl ?_ | refine WL.gauto (h := ?_) | (refine CW.seq ?_; intro K hK) | refine CW.block ?_ | refine CW.region ?_ | refine CW.skip ?_ | refine CW.exit ?_ | refine CW.ret ?_ | (refine thn_ret (K := K) ?_; clear hK K) | refine thn_ret ?_ | refine blk_ret ?_ | (refine thn_exit (K := K) ?_; clear hK K) | refine thn_exit ?_ | refine blk_here ?_ | refine blk_past rfl ?_ | refine thn_norm ?_ | refine blk_norm ?_ | refine CW.condT rfl ?_ | refine CW.condF rfl ?_ | (refine hK _ _ ?_; clear hK K))
  first | refine WL.step rfl ?_ | refine WL.gstep rfl rfl rfl rfl ?_
  refine OpW.call ((find71 tag db FA fcap fs d1 s w1 h1 (by rw [hf1]; omega)).mono ?_) rfl
  rintro v w2 ⟨g2, ⟨hx, rfl⟩ | ⟨i, f, fb, hx, hi, hfb, hname, rfl⟩⟩
  · have e1 : d.sync s = (50, d1) := by unfold PD.sync; rw [hbg]; simp only; rw [if_neg (by simp), hx]
    repeat (first | refine WL.nil ?_ | refine WL.auto (h := ?_) | refine WL.gskip rfl rfl rfl rfl ?_ | refine WL.gauto (h := ?_) | (refine CW.seq ?_; intro K hK) | refine CW.block ?_ | refine CW.region ?_ | refine CW.skip ?_ | refine CW.exit ?_ | refine CW.ret ?_ | (refine thn_ret (K := K) ?_; clear hK K) | refine thn_ret ?_ | refine blk_ret ?_ | (refine thn_exit (K := K) ?_; clear hK K) | refine thn_exit ?_ | refine blk_here ?_ | refine blk_past rfl ?_ | refine thn_norm ?_ | refine blk_norm ?_ | refine CW.condT rfl ?_ | refine CW.condF rfl ?_ | (refine hK _ _ ?_; clear hK K))
    refine out1 (v := .int .i64 50) Try.results41 rfl ?_ (Or.inr rfl)
    rw [e1]
    exact ⟨rfl, h1.grow g2, t1.grow g2⟩
  · have h2 := h1.grow g2
    have e1 : d.sync s = (0, { d1 with files := d1.files.set i { f with safe := f.data.length } }) := by
      unfold PD.sync; rw [hbg]; simp only; rw [if_neg (by simp), hx]
      show ((0 : Int), ({ d1 with files := d1.files.modify i fun f => { f with safe := f.data.length } } : PD)) = _
      rw [modify_set hi]
    obtain ⟨ht, DA, dcap, hfc, hfo⟩ := h2.file i f fb hi hfb
    repeat (first | refine WL.nil ?_ | refine WL.auto (h := ?_) | refine WL.gskip rfl rfl rfl rfl ?_ | refine WL.gauto (h := ?_) | (refine CW.seq ?_; intro K hK) | refine CW.block ?_ | refine CW.region ?_ | refine CW.skip ?_ | refine CW.exit ?_ | refine CW.ret ?_ | (refine thn_ret (K := K) ?_; clear hK K) | refine thn_ret ?_ | refine blk_ret ?_ | (refine thn_exit (K := K) ?_; clear hK K) | refine thn_exit ?_ | refine blk_here ?_ | refine blk_past rfl ?_ | refine thn_norm ?_ | refine blk_norm ?_ | refine CW.condT rfl ?_ | refine CW.condF rfl ?_ | (refine hK _ _ ?_; clear hK K))
    refine WL.step0 ?_
    refine OpW.store (v := .int _ _) rfl rfl rfl hfc rfl (c' := #[_, _, _]) rfl ?_
    intro w3 hp hb3
    repeat (first | refine WL.nil ?_ | refine WL.auto (h := ?_) | refine WL.gskip rfl rfl rfl rfl ?_ | refine WL.gauto (h := ?_) | (refine CW.seq ?_; intro K hK) | refine CW.block ?_ | refine CW.region ?_ | refine CW.skip ?_ | refine CW.exit ?_ | refine CW.ret ?_ | (refine thn_ret (K := K) ?_; clear hK K) | refine thn_ret ?_ | refine blk_ret ?_ | (refine thn_exit (K := K) ?_; clear hK K) | refine thn_exit ?_ | refine blk_here ?_ | refine blk_past rfl ?_ | refine thn_norm ?_ | refine blk_norm ?_ | refine CW.condT rfl ?_ | refine CW.condF rfl ?_ | (refine hK _ _ ?_; clear hK K))
    refine out1 (v := .int .i64 0) Try.results41 rfl ?_ (Or.inr rfl)
    rw [e1]
    refine ⟨rfl, h2.setFile hi hfb hp.chg (fun k hk => by subst hk; exact Or.inl ht) ⟨DA, dcap, hb3, hfo.keep hp.chg fun k hk e => ?_⟩, (t1.grow g2).andThen (hp.chg.mono fun k _ hk => by subst hk; rw [ht]; rfl)⟩
    subst e
    rw [ht] at hk; cases hk

def PD.read (d : PD) (s : List UInt8) : List UInt8 × Int :=
  if d.off then ([], 51) else match d.ix s with
    | none => ([], 50)
    | some i => ((d.files[i]?.map PF.data).getD [], 0)
theorem read42 (tag : Nat → Tag) (db : Nat) (FA : Option Addr) (fcap : Nat) (fs : List Nat) (d : PD) (s : List UInt8) (w : World) (h : DiskAt tag w db FA fcap fs d) (hn : d.files.length ≤ 16) (hd : ∀ f ∈ d.files, f.data.length ≤ 1099511627776) :
    Ret Try.prog 42 #[.pointer (some ⟨db, 0, none⟩), .string (bstr s)] w fun v w' => Grow w w' ∧ ∃ A cap, v = .tuple #[.slice A (d.read s).1.length cap, .int .i64 (d.read s).2] ∧ Own w' A 5 1 (d.read s).1.length cap (bvs (d.read s).1) (fresh w) := by
  have hb := h.blk
  refine Ret.enter (fn := Try.f42) (N := 25) Try.func42 rfl Try.ntmps42 rfl ?_
  repeat (first | refine WL.nil ?_ | refine WL.auto (h := ?_) | refine WL.gskip rfl rfl rfl rfl ?_ | refine WL.gauto (h := ?_) | (refine CW.seq ?_; intro K hK) | refine CW.block ?_ | refine CW.region ?_ | refine CW.skip ?_ | refine CW.exit ?_ | refine CW.ret ?_ | (refine thn_ret (K := K) ?_; clear hK K) | refine thn_ret ?_ | refine blk_ret ?_ | (refine thn_exit (K := K) ?_; clear hK K) | refine thn_exit ?_ | refine blk_here ?_ | refine blk_past rfl ?_ | refine thn_norm ?_ | refine blk_norm ?_ | refine CW.condT rfl ?_ | refine CW.condF rfl ?_ | (refine hK _ _ ?_; clear hK K))
  refine CW.cond rfl (fun h1 => ?_) (fun h1 => ?_)
  · have e1 : d.read s = ([], 51) := by unfold PD.read; rw [if_pos h1]
    repeat (first | refine WL.nil ?_ | refine WL.auto (h := ?_) | refine WL.gskip rfl rfl rfl rfl ?_ | refine WL.gauto (h := ?_) | (refine CW.seq ?_; intro K hK) | refine CW.block ?_ | refine CW.region ?_ | refine CW.skip ?_ | refine CW.exit ?_ | refine CW.ret ?_ | (refine thn_ret (K := K) ?_; clear hK K) | refine thn_ret ?_ | refine blk_ret ?_ | (refine thn_exit (K := K) ?_; clear hK K) | refine thn_exit ?_ | refine blk_here ?_ | refine blk_past rfl ?_ | refine thn_norm ?_ | refine blk_norm ?_ | refine CW.condT rfl ?_ | refine CW.condF rfl ?_ | (refine hK _ _ ?_; clear hK K))
    refine out2 (v1 := .slice none 0 0) (v2 := .int .i64 51) Try.results42 rfl rfl ?_ (Or.inr rfl)
    rw [e1]
    exact ⟨Chg.refl _ _, none, 0, rfl, Own.nil _ _ _ _⟩
  repeat (first | refine WL.nil ?_ | refine WL.auto (h := ?_) | refine WL.gskip rfl rfl rfl rfl ?_ | refine WL.gauto (h := ?_) | (refine CW.seq ?_; intro K hK) | refine CW.block ?_ | refine CW.region ?_ | refine CW.skip ?_ | refine CW.exit ?_ | refine CW.ret ?_ | (refine thn_ret (K := K) ?_; clear hK K) | refine thn_ret ?_ | refine blk_ret ?_ | (refine thn_exit (K := K) ?_; clear hK K) | refine thn_exit ?_ | refine blk_here ?_ | refine blk_past rfl ?_ | refine thn_norm ?_ | refine blk_norm ?_ | refine CW.condT rfl ?_ | refine CW.condF rfl ?_ | (refine hK _ _ ?_; clear hK K))
  first | refine WL.step rfl ?_ | refine WL.gstep rfl rfl rfl rfl ?_
  refine OpW.call ((find71 tag db FA fcap fs d s w h (by omega)).mono ?_) rfl
  rintro v w2 ⟨g2, ⟨hx, rfl⟩ | ⟨i, f, fb, hx, hi, hfb, hname, rfl⟩⟩
  · have e1 : d.read s = ([], 50) := by unfold PD.read; rw [if_neg (by simp [h1]), hx]
    repeat (first | refine WL.nil ?_ | refine WL.auto (h := ?_) | refine WL.gskip rfl rfl rfl rfl ?_ | refine WL.gauto (h := ?_) | (refine CW.seq ?_; intro K hK) | refine CW.block ?_ | refine CW.region ?_ | refine CW.skip ?_ | refine CW.exit ?_ | refine CW.ret ?_ | (refine thn_ret (K := K) ?_; clear hK K) | refine thn_ret ?_ | refine blk_ret ?_ | (refine thn_exit (K := K) ?_; clear hK K) | refine thn_exit ?_ | refine blk_here ?_ | refine blk_past rfl ?_ | refine thn_norm ?_ | refine blk_norm ?_ | refine CW.condT rfl ?_ | refine CW.condF rfl ?_ | (refine hK _ _ ?_; clear hK K))
    refine out2 (v1 := .slice none 0 0) (v2 := .int .i64 50) Try.results42 rfl rfl ?_ (Or.inr rfl)
    rw [e1]
    exact ⟨g2, none, 0, rfl, Own.nil _ _ _ _⟩
  · have e1 : d.read s = (f.data, 0) := by unfold PD.read; rw [if_neg (by simp [h1]), hx]; simp [hi]
    obtain ⟨ht, DA, dcap, hfc, hfo⟩ := (h.grow g2).file i f fb hi hfb
    repeat (first | refine WL.nil ?_ | refine WL.auto (h := ?_) | refine WL.gskip rfl rfl rfl rfl ?_ | refine WL.gauto (h := ?_) | (refine CW.seq ?_; intro K hK) | refine CW.block ?_ | refine CW.region ?_ | refine CW.skip ?_ | refine CW.exit ?_ | refine CW.ret ?_ | (refine thn_ret (K := K) ?_; clear hK K) | refine thn_ret ?_ | refine blk_ret ?_ | (refine thn_exit (K := K) ?_; clear hK K) | refine thn_exit ?_ | refine blk_here ?_ | refine blk_past rfl ?_ | refine thn_norm ?_ | refine blk_norm ?_ | refine CW.condT rfl ?_ | refine CW.condF rfl ?_ | (refine hK _ _ ?_; clear hK K))
    first | refine WL.step rfl ?_ | refine WL.gstep rfl rfl rfl rfl ?_
    refine OpW.call ((clone73 _ _ _ _ hfo.sl (by have := hd f (List.mem_of_getElem? hi); omega)).mono ?_) rfl
    rintro v w3 ⟨A3, c3, rfl, o3, g3⟩
    repeat (first | refine WL.nil ?_ | refine WL.auto (h := ?_) | refine WL.gskip rfl rfl rfl rfl ?_ | refine WL.gauto (h := ?_) | (refine CW.seq ?_; intro K hK) | refine CW.block ?_ | refine CW.region ?_ | refine CW.skip ?_ | refine CW.exit ?_ | refine CW.ret ?_ | (refine thn_ret (K := K) ?_; clear hK K) | refine thn_ret ?_ | refine blk_ret ?_ | (refine thn_exit (K := K) ?_; clear hK K) | refine thn_exit ?_ | refine blk_here ?_ | refine blk_past rfl ?_ | refine thn_norm ?_ | refine blk_norm ?_ | refine CW.condT rfl ?_ | refine CW.condF rfl ?_ | (refine hK _ _ ?_; clear hK K))
    refine out2 (v1 := .slice A3 f.data.length c3) (v2 := .int .i64 0) Try.results42 rfl rfl ?_ (Or.inr rfl)
    rw [e1]
    exact ⟨g2.then g3, A3, c3, rfl, o3.mono fun k hk => fresh_mono g2 k hk⟩
end B
end Go.Proofs.Ytlofcomnhecgfaa
