/- Rules and contracts, put together out of smaller texts. Each part tells its conditions. -/
import Derived.Test.YtlofcomnhecgfaaLibB
/- A disk of isthmus/disk as it lies in memory; New, begin, right, find. Sizes are bounded. -/
namespace Go.Proofs.Ytlofcomnhecgfaa
namespace B
attribute [local irreducible] OpW WL CW Ret Sl Blk thn blk outOf
set_option linter.unusedVariables false
set_option linter.unusedSimpArgs false
set_option maxRecDepth 4000

structure PF where
  name : List UInt8
  data : List UInt8
  safe : Nat
structure PD where
  files : List PF
  off : Bool
  armed : Nat
/-- Whose a block is. -/
inductive Tag where
  | disk | arr | file (i : Nat) | data (i : Nat) | rdisk | rarr | rdata (i : Nat) | other
def Tag.impl : Tag → Bool
  | .disk | .arr | .file _ | .data _ => true
  | _ => false
def Tag.ref : Tag → Bool
  | .rdisk | .rarr | .rdata _ => true
  | _ => false
def ptrs (l : List Nat) : List Value := l.map fun b => .pointer (some ⟨b, 0, none⟩)
theorem ptrs_length (l : List Nat) : (ptrs l).length = l.length := by simp [ptrs]
def FileRep (w : World) (fb : Nat) (f : PF) (Z : Nat → Prop) : Prop :=
  ∃ DA cap, Blk w fb #[.string (bstr f.name), .slice DA f.data.length cap, .int .i64 (f.safe : Int)] 109 ∧ Own w DA 5 1 f.data.length cap (bvs f.data) Z
structure DiskAt (tag : Nat → Tag) (w : World) (db : Nat) (FA : Option Addr) (fcap : Nat) (fs : List Nat) (d : PD) : Prop where
  tg : tag db = .disk
  blk : Blk w db #[.slice FA d.files.length fcap, .bool d.off, .int .i64 (d.armed : Int)] 102
  own : Own w FA 105 1 d.files.length fcap (ptrs fs) (fun b => tag b = .arr)
  len : fs.length = d.files.length
  file : ∀ i f fb, d.files[i]? = some f → fs[i]? = some fb → tag fb = .file i ∧ FileRep w fb f (fun b => tag b = .data i)
def DiskRep (tag : Nat → Tag) (w : World) (db : Nat) (d : PD) : Prop := ∃ FA fcap fs, DiskAt tag w db FA fcap fs d

theorem FileRep.keep {S : Nat → Prop} {w w' : World} {fb : Nat} {f : PF} {Z : Nat → Prop} (h : FileRep w fb f Z) (hc : Chg S w w') (h1 : ¬ S fb) (h2 : ∀ b, Z b → ¬ S b) : FileRep w' fb f Z := by
  obtain ⟨DA, cap, g1, g2⟩ := h
  exact ⟨DA, cap, g1.keep hc h1, g2.keep hc h2⟩
theorem DiskAt.keep {S : Nat → Prop} {tag : Nat → Tag} {w w' : World} {db : Nat} {FA : Option Addr} {fcap : Nat} {fs : List Nat} {d : PD} (h : DiskAt tag w db FA fcap fs d) (hc : Chg S w w') (hS : ∀ b, (tag b).impl = true → ¬ S b) : DiskAt tag w' db FA fcap fs d :=
  ⟨h.tg, h.blk.keep hc (hS db (by rw [h.tg]; rfl)), h.own.keep hc fun b hb => hS b (by rw [hb]; rfl), h.len, fun i f fb h1 h2 => by
    obtain ⟨h3, h4⟩ := h.file i f fb h1 h2
    exact ⟨h3, h4.keep hc (hS fb (by rw [h3]; rfl)) fun b hb => hS b (by rw [hb]; rfl)⟩⟩
theorem DiskAt.grow {tag : Nat → Tag} {w w' : World} {db : Nat} {FA : Option Addr} {fcap : Nat} {fs : List Nat} {d : PD} (h : DiskAt tag w db FA fcap fs d) (hc : Grow w w') : DiskAt tag w' db FA fcap fs d := h.keep hc fun _ _ hf => hf
theorem DiskRep.keep {S : Nat → Prop} {tag : Nat → Tag} {w w' : World} {db : Nat} {d : PD} (h : DiskRep tag w db d) (hc : Chg S w w') (hS : ∀ b, (tag b).impl = true → ¬ S b) : DiskRep tag w' db d := by
  obtain ⟨FA, fcap, fs, h⟩ := h
  exact ⟨FA, fcap, fs, h.keep hc hS⟩

def rightName (s : List UInt8) : Bool := decide (s ≠ []) && decide (s.length ≤ 32)
theorem right72 (s : List UInt8) (w : World) (hl : s.length ≤ 70368744177664) : Ret Try.prog 72 #[.string (bstr s)] w fun v w' => v = .bool (rightName s) ∧ Grow w w' := by
  refine Ret.enter (fn := Try.f72) (N := 10) Try.func72 rfl Try.ntmps72 rfl ?_
  repeat (first | refine WL.nil ?_ | refine WL.auto (h := ?_) | refine WL.gskip rfl rfl rfl rfl ?_ | refine WL.gauto (h := ?_) | (refine CW.seq ?_; intro K hK) | refine CW.block ?_ | refine CW.region ?_ | refine CW.skip ?_ | refine CW.exit ?_ | refine CW.ret ?_ | (refine thn_ret (K := K) ?_; clear hK K) | refine thn_ret ?_ | refine blk_ret ?_ | (refine thn_exit (K := K) ?_; clear hK K) | refine thn_exit ?_ | refine blk_here ?_ | refine blk_past rfl ?_ | refine thn_norm ?_ | refine blk_norm ?_ | refine CW.condT rfl ?_ | refine CW.condF rfl ?_ | (refine hK _ _ ?_; clear hK K))
  by_cases h1 : s = []
  · subst h1
    repeat (first | refine WL.nil ?_ | refine WL.auto (h := ?_) | refine WL.gskip rfl rfl rfl rfl ?_ | refine WL.gskipU rfl rfl rfl rfl ?_ | refine WL.gauto (h := ?_) | (refine CW.seq ?_; intro K hK) | refine CW.block ?_ | refine CW.region ?_ | refine CW.skip ?_ | refine CW.exit ?_ | refine CW.ret ?_ | (refine thn_ret (K := K) ?_; clear hK K) | refine thn_ret ?_ | refine blk_ret ?_ | (refine thn_exit (K := K) ?_; clear hK K) | refine thn_exit ?_ | refine blk_here ?_ | refine blk_past rfl ?_ | refine thn_norm ?_ | refine blk_norm ?_ | refine CW.condT rfl ?_ | refine CW.condF rfl ?_ | (refine hK _ _ ?_; clear hK K))
    exact out1 (v := .bool false) Try.results72 rfl ⟨by simp [rightName], Chg.refl _ _⟩ (Or.inr rfl)
  · rw [decide_eq_true (p := ¬ s = []) h1]
    repeat (first | refine WL.nil ?_ | refine WL.auto (h := ?_) | refine WL.gskip rfl rfl rfl rfl ?_ | refine WL.gskipU rfl rfl rfl rfl ?_ | refine WL.gauto (h := ?_) | (refine CW.seq ?_; intro K hK) | refine CW.block ?_ | refine CW.region ?_ | refine CW.skip ?_ | refine CW.exit ?_ | refine CW.ret ?_ | (refine thn_ret (K := K) ?_; clear hK K) | refine thn_ret ?_ | refine blk_ret ?_ | (refine thn_exit (K := K) ?_; clear hK K) | refine thn_exit ?_ | refine blk_here ?_ | refine blk_past rfl ?_ | refine thn_norm ?_ | refine blk_norm ?_ | refine CW.condT rfl ?_ | refine CW.condF rfl ?_ | (refine hK _ _ ?_; clear hK K))
    refine out1 (v := .bool (decide ((s.length : Int) ≤ 32))) Try.results72 rfl ⟨congrArg Value.bool ?_, Chg.refl _ _⟩ (Or.inr rfl)
    unfold rightName
    rw [Bool.eq_iff_iff]
    simp only [h1, ne_eq, not_false_eq_true, decide_true, Bool.true_and, decide_eq_true_eq]
    omega

/-- The first file of that name. -/
def PD.ix (d : PD) (s : List UInt8) : Option Nat := d.files.findIdx? fun f => decide (f.name = s)
theorem find71 (tag : Nat → Tag) (db : Nat) (FA : Option Addr) (fcap : Nat) (fs : List Nat) (d : PD) (s : List UInt8) (w : World) (h : DiskAt tag w db FA fcap fs d) (hn : d.files.length ≤ 1048576) :
    Ret Try.prog 71 #[.pointer (some ⟨db, 0, none⟩), .string (bstr s)] w fun v w' => Grow w w' ∧ ((d.ix s = none ∧ v = .pointer none) ∨ ∃ i f fb, d.ix s = some i ∧ d.files[i]? = some f ∧ fs[i]? = some fb ∧ f.name = s ∧ v = .pointer (some ⟨fb, 0, none⟩)) := by
  have hb := h.blk
  refine Ret.enter (fn := Try.f71) (N := 24) Try.func71 rfl Try.ntmps71 rfl ?_
  repeat (first | refine WL.nil ?_ | refine WL.auto (h := ?_) | refine WL.gskip rfl rfl rfl rfl ?_ | refine WL.gauto (h := ?_) | (refine CW.seq ?_; intro K hK) | refine CW.block ?_ | refine CW.region ?_ | refine CW.skip ?_ | refine CW.exit ?_ | refine CW.ret ?_ | (refine thn_ret (K := K) ?_; clear hK K) | refine thn_ret ?_ | refine blk_ret ?_ | (refine thn_exit (K := K) ?_; clear hK K) | refine thn_exit ?_ | refine blk_here ?_ | refine blk_past rfl ?_ | refine thn_norm ?_ | refine blk_norm ?_ | refine CW.condT rfl ?_ | refine CW.condF rfl ?_ | (refine hK _ _ ?_; clear hK K))
  refine CW.loop (fun n' e w2 => ∃ k, k ≤ d.files.length ∧ n' = d.files.length - k ∧ (∀ i f, i < k → d.files[i]? = some f → f.name ≠ s) ∧ Grow w w2 ∧ ∃ e0, e = upd (upd (upd (upd e0 1 (.string (bstr s))) 10 (.slice FA d.files.length fcap)) 11 (.int .i64 d.files.length)) 12 (.int .i64 k)) d.files.length ?_ ?_
  · exact ⟨0, by omega, rfl, fun i f hi => by omega, Chg.refl _ _, rep4 rfl rfl rfl rfl⟩
  rintro n' e w2 ⟨k, hk, rfl, hno, g2, e0, rfl⟩ KJ hJ
  repeat (first | refine WL.nil ?_ | refine WL.auto (h := ?_) | refine WL.gskip rfl rfl rfl rfl ?_ | refine WL.gauto (h := ?_) | (refine CW.seq ?_; intro K hK) | refine CW.block ?_ | refine CW.region ?_ | refine CW.skip ?_ | refine CW.exit ?_ | refine CW.ret ?_ | (refine thn_ret (K := K) ?_; clear hK K) | refine thn_ret ?_ | refine blk_ret ?_ | (refine thn_exit (K := K) ?_; clear hK K) | refine thn_exit ?_ | refine blk_here ?_ | refine blk_past rfl ?_ | refine thn_norm ?_ | refine blk_norm ?_ | refine CW.condT rfl ?_ | refine CW.condF rfl ?_ | (refine hK _ _ ?_; clear hK K))
  refine CW.condP rfl (fun h2 => ?_) (fun h2 => ?_)
  · have hkl : k < d.files.length := by omega
    have hkf : k < fs.length := by rw [h.len]; exact hkl
    have hkb : k < (ptrs fs).length := by rw [ptrs_length]; exact hkf
    have hsl := (h.own.grow g2).sl
    obtain ⟨h3, DA, dcap, h4, h5⟩ := (h.grow g2).file k d.files[k] fs[k] (List.getElem?_eq_getElem hkl) (List.getElem?_eq_getElem hkf)
    have hat : (ptrs fs)[k]? = some (.pointer (some ⟨fs[k], 0, none⟩)) := by simp [ptrs, hkf]
    repeat (first | refine WL.nil ?_ | refine WL.auto (h := ?_) | refine WL.gskip rfl rfl rfl rfl ?_ | refine WL.gauto (h := ?_) | (refine CW.seq ?_; intro K hK) | refine CW.block ?_ | refine CW.region ?_ | refine CW.skip ?_ | refine CW.exit ?_ | refine CW.ret ?_ | (refine thn_ret (K := K) ?_; clear hK K) | refine thn_ret ?_ | refine blk_ret ?_ | (refine thn_exit (K := K) ?_; clear hK K) | refine thn_exit ?_ | refine blk_here ?_ | refine blk_past rfl ?_ | refine thn_norm ?_ | refine blk_norm ?_ | refine CW.condT rfl ?_ | refine CW.condF rfl ?_ | (refine hK _ _ ?_; clear hK K))
    first | refine WL.step rfl ?_ | refine WL.gstep rfl rfl rfl rfl ?_
    refine OpW.indexAddr k rfl rfl rfl hkl (sl_ne hsl hkb) (sl_sp hsl hkb) ?_
    repeat (first | refine WL.nil ?_ | refine WL.auto (h := ?_) | refine WL.gskip rfl rfl rfl rfl ?_ | refine WL.gauto (h := ?_) | (refine CW.seq ?_; intro K hK) | refine CW.block ?_ | refine CW.region ?_ | refine CW.skip ?_ | refine CW.exit ?_ | refine CW.ret ?_ | (refine thn_ret (K := K) ?_; clear hK K) | refine thn_ret ?_ | refine blk_ret ?_ | (refine thn_exit (K := K) ?_; clear hK K) | refine thn_exit ?_ | refine blk_here ?_ | refine blk_past rfl ?_ | refine thn_norm ?_ | refine blk_norm ?_ | refine CW.condT rfl ?_ | refine CW.condF rfl ?_ | (refine hK _ _ ?_; clear hK K))
    first | refine WL.step rfl ?_ | refine WL.gstep rfl rfl rfl rfl ?_
    refine OpW.loadS (v := .pointer (some ⟨fs[k], 0, none⟩)) rfl hsl (by simpa using hat) ?_
    repeat (first | refine WL.nil ?_ | refine WL.auto (h := ?_) | refine WL.gskip rfl rfl rfl rfl ?_ | refine WL.gauto (h := ?_) | (refine CW.seq ?_; intro K hK) | refine CW.block ?_ | refine CW.region ?_ | refine CW.skip ?_ | refine CW.exit ?_ | refine CW.ret ?_ | (refine thn_ret (K := K) ?_; clear hK K) | refine thn_ret ?_ | refine blk_ret ?_ | (refine thn_exit (K := K) ?_; clear hK K) | refine thn_exit ?_ | refine blk_here ?_ | refine blk_past rfl ?_ | refine thn_norm ?_ | refine blk_norm ?_ | refine CW.condT rfl ?_ | refine CW.condF rfl ?_ | (refine hK _ _ ?_; clear hK K))
    refine CW.condP rfl (fun h6 => ?_) (fun h6 => ?_)
    · repeat (first | refine WL.nil ?_ | refine WL.auto (h := ?_) | refine WL.gskip rfl rfl rfl rfl ?_ | refine WL.gauto (h := ?_) | (refine CW.seq ?_; intro K hK) | refine CW.block ?_ | refine CW.region ?_ | refine CW.skip ?_ | refine CW.exit ?_ | refine CW.ret ?_ | (refine thn_ret (K := K) ?_; clear hK K) | refine thn_ret ?_ | refine blk_ret ?_ | (refine thn_exit (K := K) ?_; clear hK K) | refine thn_exit ?_ | refine blk_here ?_ | refine blk_past rfl ?_ | refine thn_norm ?_ | refine blk_norm ?_ | refine CW.condT rfl ?_ | refine CW.condF rfl ?_ | (refine hK _ _ ?_; clear hK K))
      refine out1 (v := .pointer (some ⟨fs[k], 0, none⟩)) Try.results71 rfl ⟨g2, Or.inr ⟨k, d.files[k], fs[k], ?_, List.getElem?_eq_getElem hkl, List.getElem?_eq_getElem hkf, h6, rfl⟩⟩ (Or.inr rfl)
      unfold PD.ix
      rw [List.findIdx?_eq_some_iff_getElem]
      exact ⟨hkl, by simpa using h6, fun j hj => by simpa using hno j d.files[j] hj (List.getElem?_eq_getElem (by omega))⟩
    · repeat (first | refine WL.nil ?_ | refine WL.auto (h := ?_) | refine WL.gskip rfl rfl rfl rfl ?_ | refine WL.gauto (h := ?_) | (refine CW.seq ?_; intro K hK) | refine CW.block ?_ | refine CW.region ?_ | refine CW.skip ?_ | refine CW.exit ?_ | refine CW.ret ?_ | (refine thn_ret (K := K) ?_; clear hK K) | refine thn_ret ?_ | refine blk_ret ?_ | (refine thn_exit (K := K) ?_; clear hK K) | refine thn_exit ?_ | refine blk_here ?_ | refine blk_past rfl ?_ | refine thn_norm ?_ | refine blk_norm ?_ | refine CW.condT rfl ?_ | refine CW.condF rfl ?_ | (refine hK _ _ ?_; clear hK K))
      refine hJ (d.files.length - (k + 1)) _ _ (by omega) ⟨k + 1, by omega, rfl, fun i f hi hf => ?_, g2, rep4 rfl rfl rfl (congrArg (Value.int .i64) (by omega))⟩
      rcases Nat.lt_or_ge i k with hi' | hi'
      · exact hno i f hi' hf
      · obtain rfl : i = k := by omega
        rw [List.getElem?_eq_getElem hkl] at hf
        cases hf
        exact h6
  · obtain rfl : k = d.files.length := by omega
    repeat (first | refine WL.nil ?_ | refine WL.auto (h := ?_) | refine WL.gskip rfl rfl rfl rfl ?_ | refine WL.gauto (h := ?_) | (refine CW.seq ?_; intro K hK) | refine CW.block ?_ | refine CW.region ?_ | refine CW.skip ?_ | refine CW.exit ?_ | refine CW.ret ?_ | (refine thn_ret (K := K) ?_; clear hK K) | refine thn_ret ?_ | refine blk_ret ?_ | (refine thn_exit (K := K) ?_; clear hK K) | refine thn_exit ?_ | refine blk_here ?_ | refine blk_past rfl ?_ | refine thn_norm ?_ | refine blk_norm ?_ | refine CW.condT rfl ?_ | refine CW.condF rfl ?_ | (refine hK _ _ ?_; clear hK K))
    refine out1 (v := .pointer none) Try.results71 rfl ⟨g2, Or.inl ⟨?_, rfl⟩⟩ (Or.inr rfl)
    unfold PD.ix
    rw [List.findIdx?_eq_none_iff]
    intro f hf
    obtain ⟨i, hi⟩ := List.getElem?_of_mem hf
    simpa using hno i f (List.getElem?_eq_some_iff.1 hi).1 hi

theorem new30 (w : World) : Ret Try.prog 30 #[] w fun v w' => ∃ db, v = .pointer (some ⟨db, 0, none⟩) ∧ New w w' db (.cells #[.slice none 0 0, .bool false, .int .i64 0] 102) := by
  refine Ret.enter (fn := Try.f30) (N := 3) Try.func30 rfl Try.ntmps30 rfl ?_
  repeat (first | refine WL.nil ?_ | refine WL.auto (h := ?_) | refine WL.gskip rfl rfl rfl rfl ?_ | refine WL.gauto (h := ?_) | (refine CW.seq ?_; intro K hK) | refine CW.block ?_ | refine CW.region ?_ | refine CW.skip ?_ | refine CW.exit ?_ | refine CW.ret ?_ | (refine thn_ret (K := K) ?_; clear hK K) | refine thn_ret ?_ | refine blk_ret ?_ | (refine thn_exit (K := K) ?_; clear hK K) | refine thn_exit ?_ | refine blk_here ?_ | refine blk_past rfl ?_ | refine thn_norm ?_ | refine blk_norm ?_ | refine CW.condT rfl ?_ | refine CW.condF rfl ?_ | (refine hK _ _ ?_; clear hK K))
  first | refine WL.step rfl ?_ | refine WL.gstep rfl rfl rfl rfl ?_
  refine OpW.build (cells := #[.slice none 0 0, .bool false, .int .i64 0]) rfl rfl ?_
  repeat (first | refine WL.nil ?_ | refine WL.auto (h := ?_) | refine WL.gskip rfl rfl rfl rfl ?_ | refine WL.gauto (h := ?_) | (refine CW.seq ?_; intro K hK) | refine CW.block ?_ | refine CW.region ?_ | refine CW.skip ?_ | refine CW.exit ?_ | refine CW.ret ?_ | (refine thn_ret (K := K) ?_; clear hK K) | refine thn_ret ?_ | refine blk_ret ?_ | (refine thn_exit (K := K) ?_; clear hK K) | refine thn_exit ?_ | refine blk_here ?_ | refine blk_past rfl ?_ | refine thn_norm ?_ | refine blk_norm ?_ | refine CW.condT rfl ?_ | refine CW.condF rfl ?_ | (refine hK _ _ ?_; clear hK K))
  first | refine WL.step rfl ?_ | refine WL.gstep rfl rfl rfl rfl ?_
  refine OpW.box (v := .agg #[.slice none 0 0, .bool false, .int .i64 0]) rfl ?_
  intro b w2 hn
  repeat (first | refine WL.nil ?_ | refine WL.auto (h := ?_) | refine WL.gskip rfl rfl rfl rfl ?_ | refine WL.gauto (h := ?_) | (refine CW.seq ?_; intro K hK) | refine CW.block ?_ | refine CW.region ?_ | refine CW.skip ?_ | refine CW.exit ?_ | refine CW.ret ?_ | (refine thn_ret (K := K) ?_; clear hK K) | refine thn_ret ?_ | refine blk_ret ?_ | (refine thn_exit (K := K) ?_; clear hK K) | refine thn_exit ?_ | refine blk_here ?_ | refine blk_past rfl ?_ | refine thn_norm ?_ | refine blk_norm ?_ | refine CW.condT rfl ?_ | refine CW.condF rfl ?_ | (refine hK _ _ ?_; clear hK K))
  exact out1 (v := .pointer (some ⟨b, 0, none⟩)) Try.results30 rfl ⟨b, rfl, hn⟩ (Or.inr rfl)
end B
end Go.Proofs.Ytlofcomnhecgfaa
/- begin, Arm, Down, Waiting of a disk. Sizes are bounded. -/
namespace Go.Proofs.Ytlofcomnhecgfaa
namespace B
attribute [local irreducible] OpW WL CW Ret Sl Blk thn blk outOf
set_option linter.unusedVariables false
set_option linter.unusedSimpArgs false
set_option maxRecDepth 4000

/-- An operation begins: is it done, what is answered, the disk behind it. -/
def PD.begin (d : PD) : Bool × Int × PD :=
  if d.off then (false, 51, d) else if 0 < d.armed then (if d.armed = 1 then (true, 51, { d with off := true, armed := 0 }) else (true, 0, { d with armed := d.armed - 1 })) else (true, 0, d)
theorem DiskAt.turn {tag : Nat → Tag} {w w' : World} {db : Nat} {FA : Option Addr} {fcap : Nat} {fs : List Nat} {d : PD} (h : DiskAt tag w db FA fcap fs d) (hc : Chg (· = db) w w') {off : Bool} {armed : Nat}
    (hb : Blk w' db #[.slice FA d.files.length fcap, .bool off, .int .i64 (armed : Int)] 102) : DiskAt tag w' db FA fcap fs { d with off := off, armed := armed } := by
  have h0 := h.tg
  refine ⟨h.tg, hb, h.own.keep hc fun b ht e => ?_, h.len, fun i f fb h1 h2 => ?_⟩
  · subst e; rw [h0] at ht; cases ht
  · obtain ⟨h3, h4⟩ := h.file i f fb h1 h2
    refine ⟨h3, h4.keep hc (fun e => ?_) fun b ht e => ?_⟩
    · subst e; rw [h0] at h3; cases h3
    · subst e; rw [h0] at ht; cases ht

theorem begin70 (tag : Nat → Tag) (db : Nat) (FA : Option Addr) (fcap : Nat) (fs : List Nat) (d : PD) (w : World) (h : DiskAt tag w db FA fcap fs d) (ha : d.armed ≤ 9223372036854775807) :
    Ret Try.prog 70 #[.pointer (some ⟨db, 0, none⟩)] w fun v w' => v = .tuple #[.bool d.begin.1, .int .i64 d.begin.2.1] ∧ DiskAt tag w' db FA fcap fs d.begin.2.2 ∧ Chg (· = db) w w' := by
  have hb := h.blk
  refine Ret.enter (fn := Try.f70) (N := 33) Try.func70 rfl Try.ntmps70 rfl ?_
  repeat (first | refine WL.nil ?_ | refine WL.auto (h := ?_) | refine WL.gskip rfl rfl rfl rfl ?_ | refine WL.gauto (h := ?_) | (refine CW.seq ?_; intro K hK) | refine CW.block ?_ | refine CW.region ?_ | refine CW.skip ?_ | refine CW.exit ?_ | refine CW.ret ?_ | (refine thn_ret (K := K) ?_; clear hK K) | refine thn_ret ?_ | refine blk_ret ?_ | (refine thn_exit (K := K) ?_; clear hK K) | refine thn_exit ?_ | refine blk_here ?_ | refine blk_past rfl ?_ | refine thn_norm ?_ | refine blk_norm ?_ | refine CW.condT rfl ?_ | refine CW.condF rfl ?_ | (refine hK _ _ ?_; clear hK K))
  refine CW.cond rfl (fun h1 => ?_) (fun h1 => ?_)
  · have e1 : d.begin = (false, 51, d) := by unfold PD.begin; rw [if_pos h1]
    repeat (first | refine WL.nil ?_ | refine WL.auto (h := ?_) | refine WL.gskip rfl rfl rfl rfl ?_ | refine WL.gauto (h := ?_) | (refine CW.seq ?_; intro K hK) | refine CW.block ?_ | refine CW.region ?_ | refine CW.skip ?_ | refine CW.exit ?_ | refine CW.ret ?_ | (refine thn_ret (K := K) ?_; clear hK K) | refine thn_ret ?_ | refine blk_ret ?_ | (refine thn_exit (K := K) ?_; clear hK K) | refine thn_exit ?_ | refine blk_here ?_ | refine blk_past rfl ?_ | refine thn_norm ?_ | refine blk_norm ?_ | refine CW.condT rfl ?_ | refine CW.condF rfl ?_ | (refine hK _ _ ?_; clear hK K))
    refine out2 (v1 := .bool false) (v2 := .int .i64 51) Try.results70 rfl rfl ?_ (Or.inr rfl)
    rw [e1]
    exact ⟨rfl, h, Chg.refl _ _⟩
  repeat (first | refine WL.nil ?_ | refine WL.auto (h := ?_) | refine WL.gskip rfl rfl rfl rfl ?_ | refine WL.gauto (h := ?_) | (refine CW.seq ?_; intro K hK) | refine CW.block ?_ | refine CW.region ?_ | refine CW.skip ?_ | refine CW.exit ?_ | refine CW.ret ?_ | (refine thn_ret (K := K) ?_; clear hK K) | refine thn_ret ?_ | refine blk_ret ?_ | (refine thn_exit (K := K) ?_; clear hK K) | refine thn_exit ?_ | refine blk_here ?_ | refine blk_past rfl ?_ | refine thn_norm ?_ | refine blk_norm ?_ | refine CW.condT rfl ?_ | refine CW.condF rfl ?_ | (refine hK _ _ ?_; clear hK K))
  refine CW.condP rfl (fun h2 => ?_) (fun h2 => ?_)
  · repeat (first | refine WL.nil ?_ | refine WL.auto (h := ?_) | refine WL.gskip rfl rfl rfl rfl ?_ | refine WL.gauto (h := ?_) | (refine CW.seq ?_; intro K hK) | refine CW.block ?_ | refine CW.region ?_ | refine CW.skip ?_ | refine CW.exit ?_ | refine CW.ret ?_ | (refine thn_ret (K := K) ?_; clear hK K) | refine thn_ret ?_ | refine blk_ret ?_ | (refine thn_exit (K := K) ?_; clear hK K) | refine thn_exit ?_ | refine blk_here ?_ | refine blk_past rfl ?_ | refine thn_norm ?_ | refine blk_norm ?_ | refine CW.condT rfl ?_ | refine CW.condF rfl ?_ | (refine hK _ _ ?_; clear hK K))
    refine WL.step0 ?_
    refine OpW.store (v := .int _ _) rfl rfl rfl hb rfl (c' := #[_, _, _]) rfl ?_
    intro w1 hp1 hb1
    repeat (first | refine WL.nil ?_ | refine WL.auto (h := ?_) | refine WL.gskip rfl rfl rfl rfl ?_ | refine WL.gauto (h := ?_) | (refine CW.seq ?_; intro K hK) | refine CW.block ?_ | refine CW.region ?_ | refine CW.skip ?_ | refine CW.exit ?_ | refine CW.ret ?_ | (refine thn_ret (K := K) ?_; clear hK K) | refine thn_ret ?_ | refine blk_ret ?_ | (refine thn_exit (K := K) ?_; clear hK K) | refine thn_exit ?_ | refine blk_here ?_ | refine blk_past rfl ?_ | refine thn_norm ?_ | refine blk_norm ?_ | refine CW.condT rfl ?_ | refine CW.condF rfl ?_ | (refine hK _ _ ?_; clear hK K))
    refine CW.condP rfl (fun h3 => ?_) (fun h3 => ?_)
    · have e1 : d.begin = (true, 51, { d with off := true, armed := 0 }) := by unfold PD.begin; rw [if_neg (by simp [h1]), if_pos (by omega), if_pos (by omega)]
      repeat (first | refine WL.nil ?_ | refine WL.auto (h := ?_) | refine WL.gskip rfl rfl rfl rfl ?_ | refine WL.gauto (h := ?_) | (refine CW.seq ?_; intro K hK) | refine CW.block ?_ | refine CW.region ?_ | refine CW.skip ?_ | refine CW.exit ?_ | refine CW.ret ?_ | (refine thn_ret (K := K) ?_; clear hK K) | refine thn_ret ?_ | refine blk_ret ?_ | (refine thn_exit (K := K) ?_; clear hK K) | refine thn_exit ?_ | refine blk_here ?_ | refine blk_past rfl ?_ | refine thn_norm ?_ | refine blk_norm ?_ | refine CW.condT rfl ?_ | refine CW.condF rfl ?_ | (refine hK _ _ ?_; clear hK K))
      refine WL.step0 ?_
      refine OpW.store (v := .bool _) rfl rfl rfl hb1 rfl (c' := #[_, _, _]) rfl ?_
      intro w2 hp2 hb2
      repeat (first | refine WL.nil ?_ | refine WL.auto (h := ?_) | refine WL.gskip rfl rfl rfl rfl ?_ | refine WL.gauto (h := ?_) | (refine CW.seq ?_; intro K hK) | refine CW.block ?_ | refine CW.region ?_ | refine CW.skip ?_ | refine CW.exit ?_ | refine CW.ret ?_ | (refine thn_ret (K := K) ?_; clear hK K) | refine thn_ret ?_ | refine blk_ret ?_ | (refine thn_exit (K := K) ?_; clear hK K) | refine thn_exit ?_ | refine blk_here ?_ | refine blk_past rfl ?_ | refine thn_norm ?_ | refine blk_norm ?_ | refine CW.condT rfl ?_ | refine CW.condF rfl ?_ | (refine hK _ _ ?_; clear hK K))
      refine out2 (v1 := .bool true) (v2 := .int .i64 51) Try.results70 rfl rfl ?_ (Or.inr rfl)
      rw [e1]
      rw [h3] at hb2
      exact ⟨rfl, h.turn (hp1.chg.andThen hp2.chg) hb2, hp1.chg.andThen hp2.chg⟩
    · have e1 : d.begin = (true, 0, { d with armed := d.armed - 1 }) := by unfold PD.begin; rw [if_neg (by simp [h1]), if_pos (by omega), if_neg (by omega)]
      repeat (first | refine WL.nil ?_ | refine WL.auto (h := ?_) | refine WL.gskip rfl rfl rfl rfl ?_ | refine WL.gauto (h := ?_) | (refine CW.seq ?_; intro K hK) | refine CW.block ?_ | refine CW.region ?_ | refine CW.skip ?_ | refine CW.exit ?_ | refine CW.ret ?_ | (refine thn_ret (K := K) ?_; clear hK K) | refine thn_ret ?_ | refine blk_ret ?_ | (refine thn_exit (K := K) ?_; clear hK K) | refine thn_exit ?_ | refine blk_here ?_ | refine blk_past rfl ?_ | refine thn_norm ?_ | refine blk_norm ?_ | refine CW.condT rfl ?_ | refine CW.condF rfl ?_ | (refine hK _ _ ?_; clear hK K))
      refine out2 (v1 := .bool true) (v2 := .int .i64 0) Try.results70 rfl rfl ?_ (Or.inr rfl)
      rw [e1]
      rw [show ((d.armed : Int) - 1) = ((d.armed - 1 : Nat) : Int) from by omega] at hb1
      exact ⟨rfl, h.turn (off := d.off) hp1.chg hb1, hp1.chg⟩
  · have e1 : d.begin = (true, 0, d) := by unfold PD.begin; rw [if_neg (by simp [h1]), if_neg (by omega)]
    repeat (first | refine WL.nil ?_ | refine WL.auto (h := ?_) | refine WL.gskip rfl rfl rfl rfl ?_ | refine WL.gauto (h := ?_) | (refine CW.seq ?_; intro K hK) | refine CW.block ?_ | refine CW.region ?_ | refine CW.skip ?_ | refine CW.exit ?_ | refine CW.ret ?_ | (refine thn_ret (K := K) ?_; clear hK K) | refine thn_ret ?_ | refine blk_ret ?_ | (refine thn_exit (K := K) ?_; clear hK K) | refine thn_exit ?_ | refine blk_here ?_ | refine blk_past rfl ?_ | refine thn_norm ?_ | refine blk_norm ?_ | refine CW.condT rfl ?_ | refine CW.condF rfl ?_ | (refine hK _ _ ?_; clear hK K))
    refine out2 (v1 := .bool true) (v2 := .int .i64 0) Try.results70 rfl rfl ?_ (Or.inr rfl)
    rw [e1]
    exact ⟨rfl, h, Chg.refl _ _⟩
theorem beginNil (w : World) : Ret Try.prog 70 #[.pointer none] w fun v w' => v = .tuple #[.bool false, .int .i64 1] ∧ Grow w w' := by
  refine Ret.enter (fn := Try.f70) (N := 33) Try.func70 rfl Try.ntmps70 rfl ?_
  repeat (first | refine WL.nil ?_ | refine WL.auto (h := ?_) | refine WL.gskip rfl rfl rfl rfl ?_ | refine WL.gauto (h := ?_) | (refine CW.seq ?_; intro K hK) | refine CW.block ?_ | refine CW.region ?_ | refine CW.skip ?_ | refine CW.exit ?_ | refine CW.ret ?_ | (refine thn_ret (K := K) ?_; clear hK K) | refine thn_ret ?_ | refine blk_ret ?_ | (refine thn_exit (K := K) ?_; clear hK K) | refine thn_exit ?_ | refine blk_here ?_ | refine blk_past rfl ?_ | refine thn_norm ?_ | refine blk_norm ?_ | refine CW.condT rfl ?_ | refine CW.condF rfl ?_ | (refine hK _ _ ?_; clear hK K))
  exact out2 (v1 := .bool false) (v2 := .int .i64 1) Try.results70 rfl rfl ⟨rfl, Chg.refl _ _⟩ (Or.inr rfl)

theorem down34 (tag : Nat → Tag) (db : Nat) (FA : Option Addr) (fcap : Nat) (fs : List Nat) (d : PD) (w : World) (h : DiskAt tag w db FA fcap fs d) : Ret Try.prog 34 #[.pointer (some ⟨db, 0, none⟩)] w fun v w' => v = .bool d.off ∧ Grow w w' := by
  have hb := h.blk
  refine Ret.enter (fn := Try.f34) (N := 11) Try.func34 rfl Try.ntmps34 rfl ?_
  repeat (first | refine WL.nil ?_ | refine WL.auto (h := ?_) | refine WL.gskip rfl rfl rfl rfl ?_ | refine WL.gskipU rfl rfl rfl rfl ?_ | refine WL.gauto (h := ?_) | (refine CW.seq ?_; intro K hK) | refine CW.block ?_ | refine CW.region ?_ | refine CW.skip ?_ | refine CW.exit ?_ | refine CW.ret ?_ | (refine thn_ret (K := K) ?_; clear hK K) | refine thn_ret ?_ | refine blk_ret ?_ | (refine thn_exit (K := K) ?_; clear hK K) | refine thn_exit ?_ | refine blk_here ?_ | refine blk_past rfl ?_ | refine thn_norm ?_ | refine blk_norm ?_ | refine CW.condT rfl ?_ | refine CW.condF rfl ?_ | (refine hK _ _ ?_; clear hK K))
  exact out1 Try.results34 rfl ⟨rfl, Chg.refl _ _⟩ (Or.inr rfl)
theorem downNil (w : World) : Ret Try.prog 34 #[.pointer none] w fun v w' => v = .bool false ∧ Grow w w' := by
  refine Ret.enter (fn := Try.f34) (N := 11) Try.func34 rfl Try.ntmps34 rfl ?_
  repeat (first | refine WL.nil ?_ | refine WL.auto (h := ?_) | refine WL.gskip rfl rfl rfl rfl ?_ | refine WL.gskipU rfl rfl rfl rfl ?_ | refine WL.gauto (h := ?_) | (refine CW.seq ?_; intro K hK) | refine CW.block ?_ | refine CW.region ?_ | refine CW.skip ?_ | refine CW.exit ?_ | refine CW.ret ?_ | (refine thn_ret (K := K) ?_; clear hK K) | refine thn_ret ?_ | refine blk_ret ?_ | (refine thn_exit (K := K) ?_; clear hK K) | refine thn_exit ?_ | refine blk_here ?_ | refine blk_past rfl ?_ | refine thn_norm ?_ | refine blk_norm ?_ | refine CW.condT rfl ?_ | refine CW.condF rfl ?_ | (refine hK _ _ ?_; clear hK K))
  exact out1 (v := .bool false) Try.results34 rfl ⟨rfl, Chg.refl _ _⟩ (Or.inr rfl)

def PD.arm (d : PD) (n : Int) : PD := if d.off then d else { d with armed := n.toNat }
theorem arm32 (tag : Nat → Tag) (db : Nat) (FA : Option Addr) (fcap : Nat) (fs : List Nat) (d : PD) (n : Int) (w : World) (h : DiskAt tag w db FA fcap fs d) :
    Ret Try.prog 32 #[.pointer (some ⟨db, 0, none⟩), .int .i64 n] w fun v w' => DiskAt tag w' db FA fcap fs (d.arm n) ∧ Chg (· = db) w w' := by
  have hb := h.blk
  refine Ret.enter (fn := Try.f32) (N := 18) Try.func32 rfl Try.ntmps32 rfl ?_
  repeat (first | refine WL.nil ?_ | refine WL.auto (h := ?_) | refine WL.gskip rfl rfl rfl rfl ?_ | refine WL.gskipU rfl rfl rfl rfl ?_ | refine WL.gauto (h := ?_) | (refine CW.seq ?_; intro K hK) | refine CW.block ?_ | refine CW.region ?_ | refine CW.skip ?_ | refine CW.exit ?_ | refine CW.ret ?_ | (refine thn_ret (K := K) ?_; clear hK K) | refine thn_ret ?_ | refine blk_ret ?_ | (refine thn_exit (K := K) ?_; clear hK K) | refine thn_exit ?_ | refine blk_here ?_ | refine blk_past rfl ?_ | refine thn_norm ?_ | refine blk_norm ?_ | refine CW.condT rfl ?_ | refine CW.condF rfl ?_ | (refine hK _ _ ?_; clear hK K))
  refine CW.cond rfl (fun h1 => ?_) (fun h1 => ?_)
  · have h2 : d.off = false := by simpa using h1
    have e1 : d.arm n = { d with armed := n.toNat } := by unfold PD.arm; rw [if_neg (by simp [h2])]
    repeat (first | refine WL.nil ?_ | refine WL.auto (h := ?_) | refine WL.gskip rfl rfl rfl rfl ?_ | refine WL.gauto (h := ?_) | (refine CW.seq ?_; intro K hK) | refine CW.block ?_ | refine CW.region ?_ | refine CW.skip ?_ | refine CW.exit ?_ | refine CW.ret ?_ | (refine thn_ret (K := K) ?_; clear hK K) | refine thn_ret ?_ | refine blk_ret ?_ | (refine thn_exit (K := K) ?_; clear hK K) | refine thn_exit ?_ | refine blk_here ?_ | refine blk_past rfl ?_ | refine thn_norm ?_ | refine blk_norm ?_ | refine CW.condT rfl ?_ | refine CW.condF rfl ?_ | (refine hK _ _ ?_; clear hK K))
    refine WL.step0 ?_
    refine OpW.store (v := .int _ _) rfl rfl rfl hb rfl (c' := #[_, _, _]) rfl ?_
    intro w1 hp1 hb1
    repeat (first | refine WL.nil ?_ | refine WL.auto (h := ?_) | refine WL.gskip rfl rfl rfl rfl ?_ | refine WL.gauto (h := ?_) | (refine CW.seq ?_; intro K hK) | refine CW.block ?_ | refine CW.region ?_ | refine CW.skip ?_ | refine CW.exit ?_ | refine CW.ret ?_ | (refine thn_ret (K := K) ?_; clear hK K) | refine thn_ret ?_ | refine blk_ret ?_ | (refine thn_exit (K := K) ?_; clear hK K) | refine thn_exit ?_ | refine blk_here ?_ | refine blk_past rfl ?_ | refine thn_norm ?_ | refine blk_norm ?_ | refine CW.condT rfl ?_ | refine CW.condF rfl ?_ | (refine hK _ _ ?_; clear hK K))
    refine out0 Try.results32 ?_ (Or.inl rfl)
    rw [e1]
    rw [show (if n > 0 then n else 0) = ((n.toNat : Nat) : Int) from by split <;> omega] at hb1
    exact ⟨h.turn (off := d.off) hp1.chg hb1, hp1.chg⟩
  · have h2 : d.off = true := by simpa using h1
    have e1 : d.arm n = d := by unfold PD.arm; rw [if_pos h2]
    repeat (first | refine WL.nil ?_ | refine WL.auto (h := ?_) | refine WL.gskip rfl rfl rfl rfl ?_ | refine WL.gauto (h := ?_) | (refine CW.seq ?_; intro K hK) | refine CW.block ?_ | refine CW.region ?_ | refine CW.skip ?_ | refine CW.exit ?_ | refine CW.ret ?_ | (refine thn_ret (K := K) ?_; clear hK K) | refine thn_ret ?_ | refine blk_ret ?_ | (refine thn_exit (K := K) ?_; clear hK K) | refine thn_exit ?_ | refine blk_here ?_ | refine blk_past rfl ?_ | refine thn_norm ?_ | refine blk_norm ?_ | refine CW.condT rfl ?_ | refine CW.condF rfl ?_ | (refine hK _ _ ?_; clear hK K))
    refine out0 Try.results32 ?_ (Or.inl rfl)
    rw [e1]
    exact ⟨h, Chg.refl _ _⟩
end B
end Go.Proofs.Ytlofcomnhecgfaa
/- Append of a disk. Sizes are bounded. -/
namespace Go.Proofs.Ytlofcomnhecgfaa
namespace B
attribute [local irreducible] OpW WL CW Ret Sl Blk thn blk outOf
set_option linter.unusedVariables false
set_option linter.unusedSimpArgs false
set_option maxRecDepth 4000

theorem FileRep.mono {w : World} {fb : Nat} {f : PF} {Z Z' : Nat → Prop} (h : FileRep w fb f Z) (hz : ∀ b, b < w.heap.size → Z b → Z' b) : FileRep w fb f Z' := by
  obtain ⟨DA, cap, g1, g2⟩ := h
  exact ⟨DA, cap, g1, g2.zone fun a ha => hz _ (g2.in_ ha).2 (g2.in_ ha).1⟩
theorem FileRep.lt {w : World} {fb : Nat} {f : PF} {Z : Nat → Prop} (h : FileRep w fb f Z) : fb < w.heap.size := by
  obtain ⟨DA, cap, g1, g2⟩ := h
  exact g1.lt
/-- New blocks may be coloured anew. -/
theorem DiskAt.retag {tag tag' : Nat → Tag} {w : World} {db : Nat} {FA : Option Addr} {fcap : Nat} {fs : List Nat} {d : PD} (h : DiskAt tag w db FA fcap fs d) (ht : ∀ k, k < w.heap.size → tag' k = tag k) : DiskAt tag' w db FA fcap fs d :=
  ⟨by rw [ht _ h.blk.lt]; exact h.tg, h.blk, h.own.zone fun a ha => by
    show tag' a.block = .arr
    rw [ht _ (h.own.in_ ha).2]; exact (h.own.in_ ha).1, h.len, fun i f fb h1 h2 => by
    obtain ⟨h3, h4⟩ := h.file i f fb h1 h2
    exact ⟨by rw [ht _ h4.lt]; exact h3, h4.mono fun b hb hz => by rw [ht _ hb]; exact hz⟩⟩
/-- One file's cells and bytes turned. -/
theorem DiskAt.setFile {S : Nat → Prop} {tag : Nat → Tag} {w w' : World} {db : Nat} {FA : Option Addr} {fcap : Nat} {fs : List Nat} {d : PD} {i fb : Nat} {f f' : PF} (h : DiskAt tag w db FA fcap fs d) (hi : d.files[i]? = some f) (hfb : fs[i]? = some fb) (hc : Chg S w w') (hS : ∀ b, S b → tag b = .file i ∨ tag b = .data i ∨ (tag b).impl = false)
    (hf : FileRep w' fb f' (fun b => tag b = .data i)) : DiskAt tag w' db FA fcap fs { d with files := d.files.set i f' } := by
  have hn : ∀ b t, tag b = t → t ≠ .file i → t ≠ .data i → t.impl = true → ¬ S b := fun b t e h1 h2 h3 hs => by
    subst e
    rcases hS b hs with h | h | h
    · exact h1 h
    · exact h2 h
    · rw [h] at h3; cases h3
  refine ⟨h.tg, ?_, ?_, ?_, fun j g gb h1 h2 => ?_⟩
  · have := h.blk.keep hc (hn db _ h.tg (by simp) (by simp) rfl)
    simpa using this
  · have := h.own.keep hc fun b hb => hn b _ hb (by simp) (by simp) rfl
    simpa using this
  · simpa using h.len
  · by_cases hj : j = i
    · subst hj
      rw [hfb] at h2
      cases h2
      rw [List.getElem?_set_self (List.getElem?_eq_some_iff.1 hi).1] at h1
      cases h1
      exact ⟨(h.file j f fb hi hfb).1, hf⟩
    · rw [List.getElem?_set_ne (fun e => hj e.symm)] at h1
      obtain ⟨h3, h4⟩ := h.file j g gb h1 h2
      refine ⟨h3, h4.keep hc (hn gb _ h3 (by simp [hj]) (by simp) rfl) fun b hb => hn b _ hb (by simp) (by simp [hj]) rfl⟩

/-- Append, plain. -/
def PD.append (d : PD) (s b : List UInt8) : Int × PD :=
  let r := d.begin
  if r.1 then
    match r.2.2.ix s with
    | none => if rightName s = false ∨ r.2.2.files.length = 16 then (max r.2.1 50, r.2.2) else (r.2.1, { r.2.2 with files := r.2.2.files ++ [⟨s, b, 0⟩] })
    | some i => (r.2.1, { r.2.2 with files := r.2.2.files.modify i fun f => { f with data := f.data ++ b } })
  else (r.2.1, r.2.2)
theorem modify_set {l : List PF} {i : Nat} {f : PF} (h : l[i]? = some f) (g : PF → PF) : l.modify i g = l.set i (g f) := by
  apply List.ext_getElem?
  intro j
  rw [List.getElem?_modify, List.getElem?_set]
  by_cases hj : i = j
  · subst hj
    have h2 := (List.getElem?_eq_some_iff.1 h).2
    simp [h, (List.getElem?_eq_some_iff.1 h).1, h2]
  · simp [hj]
/-- What has happened to a disk: its new state, its new colours. -/
def Went (tag : Nat → Tag) (w w' : World) (db : Nat) (d' : PD) : Prop :=
  ∃ tag', (∀ k, k < w.heap.size → tag' k = tag k) ∧ DiskRep tag' w' db d' ∧ Chg (fun b => (tag b).impl = true) w w'

theorem append33 (tag : Nat → Tag) (db : Nat) (d : PD) (s b : List UInt8) (B : Option Addr) (bcap : Nat) (w : World) (h : DiskRep tag w db d) (ha : d.armed ≤ 9223372036854775807) (hn : d.files.length ≤ 16) (hs : s.length ≤ 1099511627776)
    (hb : Sl w B (bvs b)) (hB : b ≠ [] → ∀ a, B = some a → (tag a.block).impl = false) (hbl : b.length ≤ 1099511627776) (hd : ∀ f ∈ d.files, f.data.length ≤ 1099511627776) :
    Ret Try.prog 33 #[.pointer (some ⟨db, 0, none⟩), .string (bstr s), .slice B b.length bcap] w fun v w' => v = .int .i64 (d.append s b).1 ∧ Went tag w w' db (d.append s b).2 := by
  obtain ⟨FA, fcap, fs, h⟩ := h
  refine Ret.enter (fn := Try.f33) (N := 63) Try.func33 rfl Try.ntmps33 rfl ?_
  repeat (first | refine WL.nil ?_ | refine WL.auto (h := ?_) | refine WL.gskip rfl rfl rfl rfl ?_ | refine WL.gauto (h := ?_) | (refine CW.seq ?_; intro K hK) | refine CW.block ?_ | refine CW.region ?_ | refine CW.skip ?_ | refine CW.exit ?_ | refine CW.ret ?_ | (refine thn_ret (K := K) ?_; clear hK K) | refine thn_ret ?_ | refine blk_ret ?_ | (refine thn_exit (K := K) ?_; clear hK K) | refine thn_exit ?_ | refine blk_here ?_ | refine blk_past rfl ?_ | refine thn_norm ?_ | refine blk_norm ?_ | refine CW.condT rfl ?_ | refine CW.condF rfl ?_ | (refine hK _ _ ?_; clear hK K))
  first | refine WL.step rfl ?_ | refine WL.gstep rfl rfl rfl rfl ?_
  refine OpW.call ((begin70 tag db FA fcap fs d w h ha).mono ?_) rfl
  rintro v w1 ⟨rfl, h1, c1⟩
  have ti : ∀ {a c : World}, Chg (· = db) a c → Chg (fun b => (tag b).impl = true) a c := fun hc => hc.mono fun k _ e => by subst e; rw [h.tg]; rfl
  have hf1 : d.begin.2.2.files = d.files := by unfold PD.begin; split <;> (try split) <;> (try split) <;> rfl
  generalize hbg : d.begin = r at *
  obtain ⟨dn, e, d1⟩ := r
  simp only at h1 hf1
  repeat (first | refine WL.nil ?_ | refine WL.auto (h := ?_) | refine WL.gskip rfl rfl rfl rfl ?_ | refine WL.gauto (h := ?_) | (refine CW.seq ?_; intro K hK) | refine CW.block ?_ | refine CW.region ?_ | refine CW.skip ?_ | refine CW.exit ?_ | refine CW.ret ?_ | (refine thn_ret (K := K) ?_; clear hK K) | refine thn_ret ?_ | refine blk_ret ?_ | (refine thn_exit (K := K) ?_; clear hK K) | refine thn_exit ?_ | refine blk_here ?_ | refine blk_past rfl ?_ | refine thn_norm ?_ | refine blk_norm ?_ | refine CW.condT rfl ?_ | refine CW.condF rfl ?_ | (refine hK _ _ ?_; clear hK K))
  cases dn with
  | false =>
    have e1 : d.append s b = (e, d1) := by unfold PD.append; rw [hbg]; rfl
    repeat (first | refine WL.nil ?_ | refine WL.auto (h := ?_) | refine WL.gskip rfl rfl rfl rfl ?_ | refine WL.gauto (h := ?_) | (refine CW.seq ?_; intro K hK) | refine CW.block ?_ | refine CW.region ?_ | refine CW.skip ?_ | refine CW.exit ?_ | refine CW.ret ?_ | (refine thn_ret (K := K) ?_; clear hK K) | refine thn_ret ?_ | refine blk_ret ?_ | (refine thn_exit (K := K) ?_; clear hK K) | refine thn_exit ?_ | refine blk_here ?_ | refine blk_past rfl ?_ | refine thn_norm ?_ | refine blk_norm ?_ | refine CW.condT rfl ?_ | refine CW.condF rfl ?_ | (refine hK _ _ ?_; clear hK K))
    refine out1 (v := .int .i64 e) Try.results33 rfl ?_ (Or.inr rfl)
    rw [e1]
    exact ⟨rfl, tag, fun _ _ => rfl, ⟨FA, fcap, fs, h1⟩, ti c1⟩
  | true =>
    repeat (first | refine WL.nil ?_ | refine WL.auto (h := ?_) | refine WL.gskip rfl rfl rfl rfl ?_ | refine WL.gauto (h := ?_) | (refine CW.seq ?_; intro K hK) | refine CW.block ?_ | refine CW.region ?_ | refine CW.skip ?_ | refine CW.exit ?_ | refine CW.ret ?_ | (refine thn_ret (K := K) ?_; clear hK K) | refine thn_ret ?_ | refine blk_ret ?_ | (refine thn_exit (K := K) ?_; clear hK K) | refine thn_exit ?_ | refine blk_here ?_ | refine blk_past rfl ?_ | refine thn_norm ?_ | refine blk_norm ?_ | refine CW.condT rfl ?_ | refine CW.condF rfl ?_ | (refine hK _ _ ?_; clear hK K))
    first | refine WL.step rfl ?_ | refine WL.gstep rfl rfl rfl rfl ?_
    refine OpW.call ((find71 tag db FA fcap fs d1 s w1 h1 (by rw [hf1]; omega)).mono ?_) rfl
    rintro v w2 ⟨g2, ⟨hx, rfl⟩ | ⟨i, f, fb, hx, hi, hfb, hname, rfl⟩⟩
    · have h2 := h1.grow g2
      have hb2 := h2.blk
      repeat (first | refine WL.nil ?_ | refine WL.auto (h := ?_) | refine WL.gskip rfl rfl rfl rfl ?_ | refine WL.gauto (h := ?_) | (refine CW.seq ?_; intro K hK) | refine CW.block ?_ | refine CW.region ?_ | refine CW.skip ?_ | refine CW.exit ?_ | refine CW.ret ?_ | (refine thn_ret (K := K) ?_; clear hK K) | refine thn_ret ?_ | refine blk_ret ?_ | (refine thn_exit (K := K) ?_; clear hK K) | refine thn_exit ?_ | refine blk_here ?_ | refine blk_past rfl ?_ | refine thn_norm ?_ | refine blk_norm ?_ | refine CW.condT rfl ?_ | refine CW.condF rfl ?_ | (refine hK _ _ ?_; clear hK K))
      first | refine WL.step rfl ?_ | refine WL.gstep rfl rfl rfl rfl ?_
      refine OpW.call ((right72 s w2 (by omega)).mono ?_) rfl
      rintro v w3 ⟨rfl, g3⟩
      have h3 := h2.grow g3
      have hb3 := h3.blk
      have hG : d.append s b = if rightName s = false ∨ d1.files.length = 16 then (max e 50, d1) else (e, { d1 with files := d1.files ++ [⟨s, b, 0⟩] }) := by
        unfold PD.append; rw [hbg]
        simp only [if_true]
        rw [hx]
      have hn1 : d1.files.length ≤ 16 := by rw [hf1]; exact hn
      by_cases hbad : rightName s = false ∨ d1.files.length = 16
      · rw [if_pos hbad] at hG
        cases hrn : rightName s with
        | false =>
          repeat (first | refine WL.nil ?_ | refine WL.auto (h := ?_) | refine WL.gskip rfl rfl rfl rfl ?_ | refine WL.gskipU rfl rfl rfl rfl ?_ | refine WL.gauto (h := ?_) | (refine CW.seq ?_; intro K hK) | refine CW.block ?_ | refine CW.region ?_ | refine CW.skip ?_ | refine CW.exit ?_ | refine CW.ret ?_ | (refine thn_ret (K := K) ?_; clear hK K) | refine thn_ret ?_ | refine blk_ret ?_ | (refine thn_exit (K := K) ?_; clear hK K) | refine thn_exit ?_ | refine blk_here ?_ | refine blk_past rfl ?_ | refine thn_norm ?_ | refine blk_norm ?_ | refine CW.condT rfl ?_ | refine CW.condF rfl ?_ | (refine hK _ _ ?_; clear hK K))
          refine out1 (v := .int .i64 (max e 50)) Try.results33 (congrArg (Value.int .i64) (by simp only [Int.max_def]; split <;> split <;> omega)) ?_ (Or.inr rfl)
          rw [hG]
          exact ⟨rfl, tag, fun _ _ => rfl, ⟨FA, fcap, fs, h3⟩, (ti c1).grow (g2.then g3)⟩
        | true =>
          have h16 : d1.files.length = 16 := hbad.resolve_left (by simp [hrn])
          repeat (first | refine WL.nil ?_ | refine WL.auto (h := ?_) | refine WL.gskip rfl rfl rfl rfl ?_ | refine WL.gskipU rfl rfl rfl rfl ?_ | refine WL.gauto (h := ?_) | (refine CW.seq ?_; intro K hK) | refine CW.block ?_ | refine CW.region ?_ | refine CW.skip ?_ | refine CW.exit ?_ | refine CW.ret ?_ | (refine thn_ret (K := K) ?_; clear hK K) | refine thn_ret ?_ | refine blk_ret ?_ | (refine thn_exit (K := K) ?_; clear hK K) | refine thn_exit ?_ | refine blk_here ?_ | refine blk_past rfl ?_ | refine thn_norm ?_ | refine blk_norm ?_ | refine CW.condT rfl ?_ | refine CW.condF rfl ?_ | (refine hK _ _ ?_; clear hK K))
          rw [decide_eq_true (p := (d1.files.length : Int) = 16) (by omega)]
          repeat (first | refine WL.nil ?_ | refine WL.auto (h := ?_) | refine WL.gskip rfl rfl rfl rfl ?_ | refine WL.gskipU rfl rfl rfl rfl ?_ | refine WL.gauto (h := ?_) | (refine CW.seq ?_; intro K hK) | refine CW.block ?_ | refine CW.region ?_ | refine CW.skip ?_ | refine CW.exit ?_ | refine CW.ret ?_ | (refine thn_ret (K := K) ?_; clear hK K) | refine thn_ret ?_ | refine blk_ret ?_ | (refine thn_exit (K := K) ?_; clear hK K) | refine thn_exit ?_ | refine blk_here ?_ | refine blk_past rfl ?_ | refine thn_norm ?_ | refine blk_norm ?_ | refine CW.condT rfl ?_ | refine CW.condF rfl ?_ | (refine hK _ _ ?_; clear hK K))
          refine out1 (v := .int .i64 (max e 50)) Try.results33 (congrArg (Value.int .i64) (by simp only [Int.max_def]; split <;> split <;> omega)) ?_ (Or.inr rfl)
          rw [hG]
          exact ⟨rfl, tag, fun _ _ => rfl, ⟨FA, fcap, fs, h3⟩, (ti c1).grow (g2.then g3)⟩
      · rw [if_neg hbad] at hG
        have hrn : rightName s = true := by cases hq : rightName s with
          | true => rfl
          | false => exact absurd (Or.inl hq) hbad
        have h16 : ¬ d1.files.length = 16 := fun h => hbad (Or.inr h)
        rw [hrn]
        repeat (first | refine WL.nil ?_ | refine WL.auto (h := ?_) | refine WL.gskip rfl rfl rfl rfl ?_ | refine WL.gskipU rfl rfl rfl rfl ?_ | refine WL.gauto (h := ?_) | (refine CW.seq ?_; intro K hK) | refine CW.block ?_ | refine CW.region ?_ | refine CW.skip ?_ | refine CW.exit ?_ | refine CW.ret ?_ | (refine thn_ret (K := K) ?_; clear hK K) | refine thn_ret ?_ | refine blk_ret ?_ | (refine thn_exit (K := K) ?_; clear hK K) | refine thn_exit ?_ | refine blk_here ?_ | refine blk_past rfl ?_ | refine thn_norm ?_ | refine blk_norm ?_ | refine CW.condT rfl ?_ | refine CW.condF rfl ?_ | (refine hK _ _ ?_; clear hK K))
        rw [decide_eq_false (p := (d1.files.length : Int) = 16) (by omega)]
        repeat (first | refine WL.nil ?_ | refine WL.auto (h := ?_) | refine WL.gskip rfl rfl rfl rfl ?_ | refine WL.gskipU rfl rfl rfl rfl ?_ | refine WL.gauto (h := ?_) | (refine CW.seq ?_; intro K hK) | refine CW.block ?_ | refine CW.region ?_ | refine CW.skip ?_ | refine CW.exit ?_ | refine CW.ret ?_ | (refine thn_ret (K := K) ?_; clear hK K) | refine thn_ret ?_ | refine blk_ret ?_ | (refine thn_exit (K := K) ?_; clear hK K) | refine thn_exit ?_ | refine blk_here ?_ | refine blk_past rfl ?_ | refine thn_norm ?_ | refine blk_norm ?_ | refine CW.condT rfl ?_ | refine CW.condF rfl ?_ | (refine hK _ _ ?_; clear hK K))
        first | refine WL.step rfl ?_ | refine WL.gstep rfl rfl rfl rfl ?_
        refine OpW.build (cells := #[.string (bstr s), .slice none 0 0, .int .i64 0]) rfl rfl ?_
        repeat (first | refine WL.nil ?_ | refine WL.auto (h := ?_) | refine WL.gskip rfl rfl rfl rfl ?_ | refine WL.gauto (h := ?_) | (refine CW.seq ?_; intro K hK) | refine CW.block ?_ | refine CW.region ?_ | refine CW.skip ?_ | refine CW.exit ?_ | refine CW.ret ?_ | (refine thn_ret (K := K) ?_; clear hK K) | refine thn_ret ?_ | refine blk_ret ?_ | (refine thn_exit (K := K) ?_; clear hK K) | refine thn_exit ?_ | refine blk_here ?_ | refine blk_past rfl ?_ | refine thn_norm ?_ | refine blk_norm ?_ | refine CW.condT rfl ?_ | refine CW.condF rfl ?_ | (refine hK _ _ ?_; clear hK K))
        first | refine WL.step rfl ?_ | refine WL.gstep rfl rfl rfl rfl ?_
        refine OpW.box (v := .agg #[.string (bstr s), .slice none 0 0, .int .i64 0]) rfl ?_
        intro fb w4 n4
        have hf4 : Blk w4 fb #[.string (bstr s), .slice none 0 0, .int .i64 0] 109 := n4.blk
        have h4 := h3.grow n4.grow
        have hb4 := h4.blk
        repeat (first | refine WL.nil ?_ | refine WL.auto (h := ?_) | refine WL.gskip rfl rfl rfl rfl ?_ | refine WL.gauto (h := ?_) | (refine CW.seq ?_; intro K hK) | refine CW.block ?_ | refine CW.region ?_ | refine CW.skip ?_ | refine CW.exit ?_ | refine CW.ret ?_ | (refine thn_ret (K := K) ?_; clear hK K) | refine thn_ret ?_ | refine blk_ret ?_ | (refine thn_exit (K := K) ?_; clear hK K) | refine thn_exit ?_ | refine blk_here ?_ | refine blk_past rfl ?_ | refine thn_norm ?_ | refine blk_norm ?_ | refine CW.condT rfl ?_ | refine CW.condF rfl ?_ | (refine hK _ _ ?_; clear hK K))
        first | refine WL.step rfl ?_ | refine WL.gstep rfl rfl rfl rfl ?_
        refine OpW.buildLit [.pointer (some ⟨fb, 0, none⟩)] rfl rfl rfl (by intro v hv; simp only [List.mem_cons, List.not_mem_nil, or_false] at hv; subst hv; rfl) ?_
        intro b5 w5 n5
        have h5 := h4.grow n5.grow
        repeat (first | refine WL.nil ?_ | refine WL.auto (h := ?_) | refine WL.gskip rfl rfl rfl rfl ?_ | refine WL.gauto (h := ?_) | (refine CW.seq ?_; intro K hK) | refine CW.block ?_ | refine CW.region ?_ | refine CW.skip ?_ | refine CW.exit ?_ | refine CW.ret ?_ | (refine thn_ret (K := K) ?_; clear hK K) | refine thn_ret ?_ | refine blk_ret ?_ | (refine thn_exit (K := K) ?_; clear hK K) | refine thn_exit ?_ | refine blk_here ?_ | refine blk_past rfl ?_ | refine thn_norm ?_ | refine blk_norm ?_ | refine CW.condT rfl ?_ | refine CW.condF rfl ?_ | (refine hK _ _ ?_; clear hK K))
        first | refine WL.step rfl ?_ | refine WL.gstep rfl rfl rfl rfl ?_
        refine OpW.append (ys := [.pointer (some ⟨fb, 0, none⟩)]) rfl rfl rfl h5.own (blk_sl_lit n5) rfl (by intro v hv; simp only [List.mem_cons, List.not_mem_nil, or_false] at hv; subst hv; rfl) ⟨by omega, by omega⟩ (fun FA' fcap' w6 o6 c6 _ => ?_)
        have hb6 := h5.blk.keep c6 (by rintro ⟨a, ha, e⟩; have := (h5.own.in_ ha).1; rw [e, h5.tg] at this; cases this)
        have fbn : w3.heap.size ≤ fb := n4.fresh
        have hf6 := (hf4.grow n5.grow).keep c6 (by rintro ⟨a, ha, e⟩; have := (h3.own.in_ ha).2; omega)
        repeat (first | refine WL.nil ?_ | refine WL.auto (h := ?_) | refine WL.gskip rfl rfl rfl rfl ?_ | refine WL.gauto (h := ?_) | (refine CW.seq ?_; intro K hK) | refine CW.block ?_ | refine CW.region ?_ | refine CW.skip ?_ | refine CW.exit ?_ | refine CW.ret ?_ | (refine thn_ret (K := K) ?_; clear hK K) | refine thn_ret ?_ | refine blk_ret ?_ | (refine thn_exit (K := K) ?_; clear hK K) | refine thn_exit ?_ | refine blk_here ?_ | refine blk_past rfl ?_ | refine thn_norm ?_ | refine blk_norm ?_ | refine CW.condT rfl ?_ | refine CW.condF rfl ?_ | (refine hK _ _ ?_; clear hK K))
        refine WL.step0 ?_
        refine OpW.store (v := .slice _ _ _) rfl rfl rfl hb6 rfl (c' := #[_, _, _]) rfl ?_
        intro w7 hp7 hb7
        have dbl : db < w3.heap.size := h3.blk.lt
        have hf7 := hf6.keep hp7.chg (by intro e; omega)
        repeat (first | refine WL.nil ?_ | refine WL.auto (h := ?_) | refine WL.gskip rfl rfl rfl rfl ?_ | refine WL.gauto (h := ?_) | (refine CW.seq ?_; intro K hK) | refine CW.block ?_ | refine CW.region ?_ | refine CW.skip ?_ | refine CW.exit ?_ | refine CW.ret ?_ | (refine thn_ret (K := K) ?_; clear hK K) | refine thn_ret ?_ | refine blk_ret ?_ | (refine thn_exit (K := K) ?_; clear hK K) | refine thn_exit ?_ | refine blk_here ?_ | refine blk_past rfl ?_ | refine thn_norm ?_ | refine blk_norm ?_ | refine CW.condT rfl ?_ | refine CW.condF rfl ?_ | (refine hK _ _ ?_; clear hK K))
        have hb1 : Sl w1 B (bvs b) := hb.keepN c1 fun hne a ha e => by have := hB (bvs_ne hne) a ha; rw [e, h.tg] at this; cases this
        have hb5 : Sl w5 B (bvs b) := hb1.grow (g2.then (g3.then (n4.grow.then n5.grow)))
        have hbw6 : Sl w6 B (bvs b) := hb5.keepN c6 (by rintro hne a ha ⟨a', ha', e⟩; have := hB (bvs_ne hne) a ha; rw [← e, (h3.own.in_ ha').1] at this; cases this)
        have hbw7 : Sl w7 B (bvs b) := hbw6.keepN hp7.chg fun hne a ha e => by have := hB (bvs_ne hne) a ha; rw [e, h.tg] at this; cases this
        first | refine WL.step rfl ?_ | refine WL.gstep rfl rfl rfl rfl ?_
        refine OpW.append rfl rfl rfl (Own.nil w7 5 1 (fun _ => False)) hbw7 (bvs_len1 b) (bvs_one b) ⟨by omega, by omega⟩ (fun A8 cap8 w8 o8 c8 _ => ?_)
        have g8 : Grow w7 w8 := c8.mono fun k _ ⟨a, ha, _⟩ => by cases ha
        have hf8 := hf7.grow g8
        repeat (first | refine WL.nil ?_ | refine WL.auto (h := ?_) | refine WL.gskip rfl rfl rfl rfl ?_ | refine WL.gauto (h := ?_) | (refine CW.seq ?_; intro K hK) | refine CW.block ?_ | refine CW.region ?_ | refine CW.skip ?_ | refine CW.exit ?_ | refine CW.ret ?_ | (refine thn_ret (K := K) ?_; clear hK K) | refine thn_ret ?_ | refine blk_ret ?_ | (refine thn_exit (K := K) ?_; clear hK K) | refine thn_exit ?_ | refine blk_here ?_ | refine blk_past rfl ?_ | refine thn_norm ?_ | refine blk_norm ?_ | refine CW.condT rfl ?_ | refine CW.condF rfl ?_ | (refine hK _ _ ?_; clear hK K))
        refine WL.step0 ?_
        refine OpW.store (v := .slice _ _ _) rfl rfl rfl hf8 rfl (c' := #[_, _, _]) rfl ?_
        intro w9 hp9 hf9
        repeat (first | refine WL.nil ?_ | refine WL.auto (h := ?_) | refine WL.gskip rfl rfl rfl rfl ?_ | refine WL.gauto (h := ?_) | (refine CW.seq ?_; intro K hK) | refine CW.block ?_ | refine CW.region ?_ | refine CW.skip ?_ | refine CW.exit ?_ | refine CW.ret ?_ | (refine thn_ret (K := K) ?_; clear hK K) | refine thn_ret ?_ | refine blk_ret ?_ | (refine thn_exit (K := K) ?_; clear hK K) | refine thn_exit ?_ | refine blk_here ?_ | refine blk_past rfl ?_ | refine thn_norm ?_ | refine blk_norm ?_ | refine CW.condT rfl ?_ | refine CW.condF rfl ?_ | (refine hK _ _ ?_; clear hK K))
        refine out1 (v := .int .i64 e) Try.results33 rfl ?_ (Or.inr rfl)
        rw [hG]
        rw [Nat.zero_add] at o8 hf9
        rw [List.nil_append] at o8
        have s34 := n4.grow.size
        have s45 := n5.grow.size
        have s56 := c6.size
        have s67 := hp7.size
        have fb4 : fb < w4.heap.size := hf4.lt
        have C39 : Chg (fun k => k = db ∨ ∃ a, FA = some a ∧ a.block = k) w3 w9 := by
          have a1 : Chg (fun k => k = db ∨ ∃ a, FA = some a ∧ a.block = k) w3 w6 := Grow.chg (n4.grow.then n5.grow) (c6.mono fun k _ hk => Or.inr hk)
          have a2 := (a1.andThen (hp7.chg.mono fun k _ hk => Or.inl hk)).grow g8
          exact a2.trans hp9.chg fun i hi e => by subst e; omega
        refine ⟨rfl, fun k => if k < w3.heap.size then tag k else if k = fb then .file d1.files.length else if k < w7.heap.size then .arr else .data d1.files.length, fun k hk => ?_, ⟨FA', fcap', fs ++ [fb], ?_⟩, ?_⟩
        · show (if _ then _ else _) = _
          rw [if_pos (by have := c1.size; have := g2.size; have := g3.size; omega)]
        · have hR := h3.retag (tag' := fun k => if k < w3.heap.size then tag k else if k = fb then .file d1.files.length else if k < w7.heap.size then .arr else .data d1.files.length) fun k hk => if_pos hk
          have tfb : (if fb < w3.heap.size then tag fb else if fb = fb then Tag.file d1.files.length else if fb < w7.heap.size then .arr else .data d1.files.length) = .file d1.files.length := by rw [if_neg (by omega), if_pos rfl]
          refine ⟨hR.tg, ?_, ?_, ?_, fun i f gb q1 q2 => ?_⟩
          · have := (hb7.grow g8).keep hp9.chg (by intro e; omega)
            simpa using this
          · have o6z := o6.zone (Z' := fun k => (if k < w3.heap.size then tag k else if k = fb then Tag.file d1.files.length else if k < w7.heap.size then .arr else .data d1.files.length) = .arr) fun a ha => by
              have hin := o6.in_ ha
              rcases hin.1 with ⟨a', h1', h2'⟩ | h1'
              · have q := h3.own.in_ h1'
                rw [h2'] at q
                show (if _ then _ else _) = _
                rw [if_pos q.2]; exact q.1
              · show (if _ then _ else _) = _
                rw [if_neg (by omega), if_neg (by omega), if_pos (by omega)]
            have o9 := ((o6z.keep hp7.chg fun k hk e => by
              subst e
              rw [if_pos dbl, h3.tg] at hk; cases hk).grow g8).keep hp9.chg fun k hk e => by
              subst e
              rw [tfb] at hk; cases hk
            simpa [ptrs] using o9
          · simp [h3.len]
          · rcases Nat.lt_or_ge i d1.files.length with hi | hi
            · rw [List.getElem?_append_left hi] at q1
              rw [List.getElem?_append_left (by rw [h3.len]; exact hi)] at q2
              obtain ⟨r1, r2⟩ := hR.file i f gb q1 q2
              refine ⟨r1, r2.keep C39 ?_ fun k hk => ?_⟩
              · rintro (e | ⟨a, ha, e⟩)
                · rw [e, hR.tg] at r1; cases r1
                · have q := (hR.own.in_ ha).1
                  rw [e, r1] at q; cases q
              · rintro (e | ⟨a, ha, e⟩)
                · rw [e, hR.tg] at hk; cases hk
                · have q := (hR.own.in_ ha).1
                  rw [e, hk] at q; cases q
            · have hin : i = d1.files.length := by
                have := (List.getElem?_eq_some_iff.1 q1).1
                simp at this; omega
              subst hin
              rw [List.getElem?_append_right (Nat.le_refl _), Nat.sub_self] at q1
              rw [List.getElem?_append_right (by rw [h3.len]; exact Nat.le_refl _), h3.len, Nat.sub_self] at q2
              simp only [List.getElem?_cons_zero, Option.some.injEq] at q1 q2
              subst q1 q2
              refine ⟨tfb, A8, cap8, hf9, ?_⟩
              have o8z := o8.zone (Z' := fun k => (if k < w3.heap.size then tag k else if k = fb then Tag.file d1.files.length else if k < w7.heap.size then .arr else .data d1.files.length) = .data d1.files.length) fun a ha => by
                rcases (o8.in_ ha).1 with ⟨a', h1', _⟩ | h1'
                · cases h1'
                · show (if _ then _ else _) = _
                  rw [if_neg (by omega), if_neg (by omega), if_neg (by omega)]
              exact o8z.keep hp9.chg fun k hk e => by
                subst e
                rw [tfb] at hk; cases hk
        · refine ((ti c1).grow (g2.then g3)).andThen (C39.mono fun k _ hk => ?_)
          rcases hk with rfl | ⟨a, ha, rfl⟩
          · rw [h.tg]; rfl
          · rw [(h3.own.in_ ha).1]; rfl
    · have h2 := h1.grow g2
      have e1 : d.append s b = (e, { d1 with files := d1.files.set i { f with data := f.data ++ b } }) := by
        unfold PD.append; rw [hbg]
        simp only [if_true]
        rw [hx]
        show (e, { d1 with files := d1.files.modify i fun f => { f with data := f.data ++ b } }) = _
        rw [modify_set hi]
      obtain ⟨ht, DA, dcap, hfc, hfo⟩ := h2.file i f fb hi hfb
      have hfl : f.data.length ≤ 1099511627776 := hd f (by rw [← hf1]; exact List.mem_of_getElem? hi)
      repeat (first | refine WL.nil ?_ | refine WL.auto (h := ?_) | refine WL.gskip rfl rfl rfl rfl ?_ | refine WL.gskipU rfl rfl rfl rfl ?_ | refine WL.gauto (h := ?_) | (refine CW.seq ?_; intro K hK) | refine CW.block ?_ | refine CW.region ?_ | refine CW.skip ?_ | refine CW.exit ?_ | refine CW.ret ?_ | (refine thn_ret (K := K) ?_; clear hK K) | refine thn_ret ?_ | refine blk_ret ?_ | (refine thn_exit (K := K) ?_; clear hK K) | refine thn_exit ?_ | refine blk_here ?_ | refine blk_past rfl ?_ | refine thn_norm ?_ | refine blk_norm ?_ | refine CW.condT rfl ?_ | refine CW.condF rfl ?_ | (refine hK _ _ ?_; clear hK K))
      have hb1 : Sl w1 B (bvs b) := hb.keepN c1 fun hne a ha e => by have := hB (bvs_ne hne) a ha; rw [e, h.tg] at this; cases this
      first | refine WL.step rfl ?_ | refine WL.gstep rfl rfl rfl rfl ?_
      refine OpW.append rfl rfl rfl hfo (hb1.grow g2) (bvs_len1 b) (bvs_one b) ⟨by omega, by omega⟩ (fun A' c' w3 o3 c3 _ => ?_)
      rw [← List.length_append, ← bvs_append] at o3
      rw [← List.length_append]
      have hfc3 := hfc.keep c3 (by rintro ⟨a, ha, e⟩; have := (hfo.in_ ha).1; rw [e, ht] at this; cases this)
      repeat (first | refine WL.nil ?_ | refine WL.auto (h := ?_) | refine WL.gskip rfl rfl rfl rfl ?_ | refine WL.gauto (h := ?_) | (refine CW.seq ?_; intro K hK) | refine CW.block ?_ | refine CW.region ?_ | refine CW.skip ?_ | refine CW.exit ?_ | refine CW.ret ?_ | (refine thn_ret (K := K) ?_; clear hK K) | refine thn_ret ?_ | refine blk_ret ?_ | (refine thn_exit (K := K) ?_; clear hK K) | refine thn_exit ?_ | refine blk_here ?_ | refine blk_past rfl ?_ | refine thn_norm ?_ | refine blk_norm ?_ | refine CW.condT rfl ?_ | refine CW.condF rfl ?_ | (refine hK _ _ ?_; clear hK K))
      refine WL.step0 ?_
      refine OpW.store (v := .slice _ _ _) rfl rfl rfl hfc3 rfl (c' := #[_, _, _]) rfl ?_
      intro w4 hp4 hb4
      repeat (first | refine WL.nil ?_ | refine WL.auto (h := ?_) | refine WL.gskip rfl rfl rfl rfl ?_ | refine WL.gauto (h := ?_) | (refine CW.seq ?_; intro K hK) | refine CW.block ?_ | refine CW.region ?_ | refine CW.skip ?_ | refine CW.exit ?_ | refine CW.ret ?_ | (refine thn_ret (K := K) ?_; clear hK K) | refine thn_ret ?_ | refine blk_ret ?_ | (refine thn_exit (K := K) ?_; clear hK K) | refine thn_exit ?_ | refine blk_here ?_ | refine blk_past rfl ?_ | refine thn_norm ?_ | refine blk_norm ?_ | refine CW.condT rfl ?_ | refine CW.condF rfl ?_ | (refine hK _ _ ?_; clear hK K))
      refine out1 (v := .int .i64 e) Try.results33 rfl ?_ (Or.inr rfl)
      rw [e1]
      have hlt : ∀ {k}, k < w2.heap.size → (if k < w2.heap.size then tag k else .data i) = tag k := fun hk => by rw [if_pos hk]
      have hfb2 : fb < w2.heap.size := hfc.lt
      have hz : ∀ k, (∃ a, DA = some a ∧ a.block = k) ∨ w2.heap.size ≤ k → (if k < w2.heap.size then tag k else .data i) = .data i := by
        rintro k (⟨a, ha, rfl⟩ | hk)
        · rw [hlt (hfo.in_ ha).2]; exact (hfo.in_ ha).1
        · rw [if_neg (by omega)]
      have hR := h2.retag (tag' := fun k => if k < w2.heap.size then tag k else .data i) fun k hk => hlt hk
      have hC : Chg (fun k => k = fb ∨ ∃ a, DA = some a ∧ a.block = k) w2 w4 := (c3.mono fun k _ hk => Or.inr hk).andThen (hp4.chg.mono fun k _ hk => Or.inl hk)
      refine ⟨rfl, fun k => if k < w2.heap.size then tag k else .data i, fun k hk => hlt (by have := c1.size; have := g2.size; omega), ⟨FA, fcap, fs, hR.setFile hi hfb hC (fun k hk => ?_) ⟨A', c', hb4, ?_⟩⟩, ?_⟩
      · rcases hk with rfl | hk
        · exact Or.inl (by rw [hlt hfb2]; exact ht)
        · exact Or.inr (Or.inl (hz k (Or.inl hk)))
      · exact (o3.mono hz).keep hp4.chg fun k hk e => by
          subst e
          rw [hlt hfb2, ht] at hk; cases hk
      · refine ((ti c1).grow g2).andThen (hC.mono fun k _ hk => ?_)
        rcases hk with rfl | ⟨a, ha, rfl⟩
        · rw [ht]; rfl
        · rw [(hfo.in_ ha).1]; rfl
end B
end Go.Proofs.Ytlofcomnhecgfaa
/- Sync and Read of a disk. Sizes are bounded. -/
namespace Go.Proofs.Ytlofcomnhecgfaa
namespace B
attribute [local irreducible] OpW WL CW Ret Sl Blk thn blk outOf
set_option linter.unusedVariables false
set_option linter.unusedSimpArgs false
set_option maxRecDepth 4000

theorem begin_files (d : PD) : d.begin.2.2.files = d.files := by unfold PD.begin; split <;> (try split) <;> (try split) <;> rfl
theorem DiskAt.toImpl {tag : Nat → Tag} {w a c : World} {db : Nat} {FA : Option Addr} {fcap : Nat} {fs : List Nat} {d : PD} (h : DiskAt tag w db FA fcap fs d) (hc : Chg (· = db) a c) : Chg (fun b => (tag b).impl = true) a c :=
  hc.mono fun k _ e => by subst e; rw [h.tg]; rfl

def PD.sync (d : PD) (s : List UInt8) : Int × PD :=
  let r := d.begin
  if r.2.1 ≠ 0 then (r.2.1, r.2.2) else
    match r.2.2.ix s with
    | none => (50, r.2.2)
    | some i => (0, { r.2.2 with files := r.2.2.files.modify i fun f => { f with safe := f.data.length } })
theorem sync41 (tag : Nat → Tag) (db : Nat) (FA : Option Addr) (fcap : Nat) (fs : List Nat) (d : PD) (s : List UInt8) (w : World) (h : DiskAt tag w db FA fcap fs d) (ha : d.armed ≤ 9223372036854775807) (hn : d.files.length ≤ 16) :
    Ret Try.prog 41 #[.pointer (some ⟨db, 0, none⟩), .string (bstr s)] w fun v w' => v = .int .i64 (d.sync s).1 ∧ DiskAt tag w' db FA fcap fs (d.sync s).2 ∧ Chg (fun b => (tag b).impl = true) w w' := by
  refine Ret.enter (fn := Try.f41) (N := 29) Try.func41 rfl Try.ntmps41 rfl ?_
  repeat (first | refine WL.nil ?_ | refine WL.auto (h := ?_) | refine WL.gskip rfl rfl rfl rfl ?_ | refine WL.gauto (h := ?_) | (refine CW.seq ?_; intro K hK) | refine CW.block ?_ | refine CW.region ?_ | refine CW.skip ?_ | refine CW.exit ?_ | refine CW.ret ?_ | (refine thn_ret (K := K) ?_; clear hK K) | refine thn_ret ?_ | refine blk_ret ?_ | (refine thn_exit (K := K) ?_; clear hK K) | refine thn_exit ?_ | refine blk_here ?_ | refine blk_past rfl ?_ | refine thn_norm ?_ | refine blk_norm ?_ | refine CW.condT rfl ?_ | refine CW.condF rfl ?_ | (refine hK _ _ ?_; clear hK K))
  first | refine WL.step rfl ?_ | refine WL.gstep rfl rfl rfl rfl ?_
  refine OpW.call ((begin70 tag db FA fcap fs d w h ha).mono ?_) rfl
  rintro v w1 ⟨rfl, h1, c1⟩
  have hf1 := begin_files d
  have t1 := h.toImpl c1
  generalize hbg : d.begin = r at *
  obtain ⟨dn, e, d1⟩ := r
  simp only at h1 hf1
  repeat (first | refine WL.nil ?_ | refine WL.auto (h := ?_) | refine WL.gskip rfl rfl rfl rfl ?_ | refine WL.gauto (h := ?_) | (refine CW.seq ?_; intro K hK) | refine CW.block ?_ | refine CW.region ?_ | refine CW.skip ?_ | refine CW.exit ?_ | refine CW.ret ?_ | (refine thn_ret (K := K) ?_; clear hK K) | refine thn_ret ?_ | refine blk_ret ?_ | (refine thn_exit (K := K) ?_; clear hK K) | refine thn_exit ?_ | refine blk_here ?_ | refine blk_past rfl ?_ | refine thn_norm ?_ | refine blk_norm ?_ | refine CW.condT rfl ?_ | refine CW.condF rfl ?_ | (refine hK _ _ ?_; clear hK K))
  refine CW.condP rfl (fun he => ?_) (fun he => ?_)
  · have e1 : d.sync s = (e, d1) := by unfold PD.sync; rw [hbg]; simp only; rw [if_pos he]
    repeat (first | refine WL.nil ?_ | refine WL.auto (h := ?_) | refine WL.gskip rfl rfl rfl rfl ?_ | refine WL.gauto (h := ?_) | (refine CW.seq ?_; intro K hK) | refine CW.block ?_ | refine CW.region ?_ | refine CW.skip ?_ | refine CW.exit ?_ | refine CW.ret ?_ | (refine thn_ret (K := K) ?_; clear hK K) | refine thn_ret ?_ | refine blk_ret ?_ | (refine thn_exit (K := K) ?_; clear hK K) | refine thn_exit ?_ | refine blk_here ?_ | refine blk_past rfl ?_ | refine thn_norm ?_ | refine blk_norm ?_ | refine CW.condT rfl ?_ | refine CW.condF rfl ?_ | (refine hK _ _ ?_; clear hK K))
    refine out1 (v := .int .i64 e) Try.results41 rfl ?_ (Or.inr rfl)
    rw [e1]
    exact ⟨rfl, h1, t1⟩
  have he0 : e = 0 := by simpa using he
  subst he0
  repeat (first | refine WL.nil ?_ | refine WL.auto (h := ?_) | refine WL.gskip rfl rfl rfl rfl ?_ | refine WL.gauto (h := ?_) | (refine CW.seq ?_; intro K hK) | refine CW.block ?_ | refine CW.region ?_ | refine CW.skip ?_ | refine CW.exit ?_ | refine CW.ret ?_ | (refine thn_ret (K := K) ?_; clear hK K) | refine thn_ret ?_ | refine blk_ret ?_ | (refine thn_exit (K := K) ?_; clear hK K) | refine thn_exit ?_ | refine blk_here ?_ | refine blk_past rfl ?_ | refine thn_norm ?_ | refine blk_norm ?_ | refine CW.condT rfl ?_ | refine CW.condF rfl ?_ | (refine hK _ _ ?_; clear hK K))
  first | refine WL.step rfl ?_ | refine WL.gstep rfl rfl rfl rfl ?_
  refine OpW.call ((find71 tag db FA fcap fs d1 s w1 h1 (by rw [hf1]; omega)).mono ?_) rfl
  rintro v w2 ⟨g2, ⟨hx, rfl⟩ | ⟨i, f, fb, hx, hi, hfb, hname, rfl⟩⟩
  · have e1 : d.sync s = (50, d1) := by unfold PD.sync; rw [hbg]; simp only; rw [if_neg (by simp), hx]
    repeat (first | refine WL.nil ?_ | refine WL.auto (h := ?_) | refine WL.gskip rfl rfl rfl rfl ?_ | refine WL.gauto (h := ?_) | (refine CW.seq ?_; intro K hK) | refine CW.block ?_ | refine CW.region ?_ | refine CW.skip ?_ | refine CW.exit ?_ | refine CW.ret ?_ | (refine thn_ret (K := K) ?_; clear hK K) | refine thn_ret ?_ | refine blk_ret ?_ | (refine thn_exit (K := K) ?_; clear hK K) | refine thn_exit ?_ | refine blk_here ?_ | refine blk_past rfl ?_ | refine thn_norm ?_ | refine blk_norm ?_ | refine CW.condT rfl ?_ | refine CW.condF rfl ?_ | (refine hK _ _ ?_; clear hK K))
    refine out1 (v := .int .i64 50) Try.results41 rfl ?_ (Or.inr rfl)
    rw [e1]
    exact ⟨rfl, h1.grow g2, t1.grow g2⟩
  · have h2 := h1.grow g2
    have e1 : d.sync s = (0, { d1 with files := d1.files.set i { f with safe := f.data.length } }) := by
      unfold PD.sync; rw [hbg]; simp only; rw [if_neg (by simp), hx]
      show ((0 : Int), ({ d1 with files := d1.files.modify i fun f => { f with safe := f.data.length } } : PD)) = _
      rw [modify_set hi]
    obtain ⟨ht, DA, dcap, hfc, hfo⟩ := h2.file i f fb hi hfb
    repeat (first | refine WL.nil ?_ | refine WL.auto (h := ?_) | refine WL.gskip rfl rfl rfl rfl ?_ | refine WL.gauto (h := ?_) | (refine CW.seq ?_; intro K hK) | refine CW.block ?_ | refine CW.region ?_ | refine CW.skip ?_ | refine CW.exit ?_ | refine CW.ret ?_ | (refine thn_ret (K := K) ?_; clear hK K) | refine thn_ret ?_ | refine blk_ret ?_ | (refine thn_exit (K := K) ?_; clear hK K) | refine thn_exit ?_ | refine blk_here ?_ | refine blk_past rfl ?_ | refine thn_norm ?_ | refine blk_norm ?_ | refine CW.condT rfl ?_ | refine CW.condF rfl ?_ | (refine hK _ _ ?_; clear hK K))
    refine WL.step0 ?_
    refine OpW.store (v := .int _ _) rfl rfl rfl hfc rfl (c' := #[_, _, _]) rfl ?_
    intro w3 hp hb3
    repeat (first | refine WL.nil ?_ | refine WL.auto (h := ?_) | refine WL.gskip rfl rfl rfl rfl ?_ | refine WL.gauto (h := ?_) | (refine CW.seq ?_; intro K hK) | refine CW.block ?_ | refine CW.region ?_ | refine CW.skip ?_ | refine CW.exit ?_ | refine CW.ret ?_ | (refine thn_ret (K := K) ?_; clear hK K) | refine thn_ret ?_ | refine blk_ret ?_ | (refine thn_exit (K := K) ?_; clear hK K) | refine thn_exit ?_ | refine blk_here ?_ | refine blk_past rfl ?_ | refine thn_norm ?_ | refine blk_norm ?_ | refine CW.condT rfl ?_ | refine CW.condF rfl ?_ | (refine hK _ _ ?_; clear hK K))
    refine out1 (v := .int .i64 0) Try.results41 rfl ?_ (Or.inr rfl)
    rw [e1]
    refine ⟨rfl, h2.setFile hi hfb hp.chg (fun k hk => by subst hk; exact Or.inl ht) ⟨DA, dcap, hb3, hfo.keep hp.chg fun k hk e => ?_⟩, (t1.grow g2).andThen (hp.chg.mono fun k _ hk => by subst hk; rw [ht]; rfl)⟩
    subst e
    rw [ht] at hk; cases hk

def PD.read (d : PD) (s : List UInt8) : List UInt8 × Int :=
  if d.off then ([], 51) else match d.ix s with
    | none => ([], 50)
    | some i => ((d.files[i]?.map PF.data).getD [], 0)
theorem read42 (tag : Nat → Tag) (db : Nat) (FA : Option Addr) (fcap : Nat) (fs : List Nat) (d : PD) (s : List UInt8) (w : World) (h : DiskAt tag w db FA fcap fs d) (hn : d.files.length ≤ 16) (hd : ∀ f ∈ d.files, f.data.length ≤ 1099511627776) :
    Ret Try.prog 42 #[.pointer (some ⟨db, 0, none⟩), .string (bstr s)] w fun v w' => Grow w w' ∧ ∃ A cap, v = .tuple #[.slice A (d.read s).1.length cap, .int .i64 (d.read s).2] ∧ Own w' A 5 1 (d.read s).1.length cap (bvs (d.read s).1) (fresh w) := by
  have hb := h.blk
  refine Ret.enter (fn := Try.f42) (N := 25) Try.func42 rfl Try.ntmps42 rfl ?_
  repeat (first | refine WL.nil ?_ | refine WL.auto (h := ?_) | refine WL.gskip rfl rfl rfl rfl ?_ | refine WL.gauto (h := ?_) | (refine CW.seq ?_; intro K hK) | refine CW.block ?_ | refine CW.region ?_ | refine CW.skip ?_ | refine CW.exit ?_ | refine CW.ret ?_ | (refine thn_ret (K := K) ?_; clear hK K) | refine thn_ret ?_ | refine blk_ret ?_ | (refine thn_exit (K := K) ?_; clear hK K) | refine thn_exit ?_ | refine blk_here ?_ | refine blk_past rfl ?_ | refine thn_norm ?_ | refine blk_norm ?_ | refine CW.condT rfl ?_ | refine CW.condF rfl ?_ | (refine hK _ _ ?_; clear hK K))
  refine CW.cond rfl (fun h1 => ?_) (fun h1 => ?_)
  · have e1 : d.read s = ([], 51) := by unfold PD.read; rw [if_pos h1]
    repeat (first | refine WL.nil ?_ | refine WL.auto (h := ?_) | refine WL.gskip rfl rfl rfl rfl ?_ | refine WL.gauto (h := ?_) | (refine CW.seq ?_; intro K hK) | refine CW.block ?_ | refine CW.region ?_ | refine CW.skip ?_ | refine CW.exit ?_ | refine CW.ret ?_ | (refine thn_ret (K := K) ?_; clear hK K) | refine thn_ret ?_ | refine blk_ret ?_ | (refine thn_exit (K := K) ?_; clear hK K) | refine thn_exit ?_ | refine blk_here ?_ | refine blk_past rfl ?_ | refine thn_norm ?_ | refine blk_norm ?_ | refine CW.condT rfl ?_ | refine CW.condF rfl ?_ | (refine hK _ _ ?_; clear hK K))
    refine out2 (v1 := .slice none 0 0) (v2 := .int .i64 51) Try.results42 rfl rfl ?_ (Or.inr rfl)
    rw [e1]
    exact ⟨Chg.refl _ _, none, 0, rfl, Own.nil _ _ _ _⟩
  repeat (first | refine WL.nil ?_ | refine WL.auto (h := ?_) | refine WL.gskip rfl rfl rfl rfl ?_ | refine WL.gauto (h := ?_) | (refine CW.seq ?_; intro K hK) | refine CW.block ?_ | refine CW.region ?_ | refine CW.skip ?_ | refine CW.exit ?_ | refine CW.ret ?_ | (refine thn_ret (K := K) ?_; clear hK K) | refine thn_ret ?_ | refine blk_ret ?_ | (refine thn_exit (K := K) ?_; clear hK K) | refine thn_exit ?_ | refine blk_here ?_ | refine blk_past rfl ?_ | refine thn_norm ?_ | refine blk_norm ?_ | refine CW.condT rfl ?_ | refine CW.condF rfl ?_ | (refine hK _ _ ?_; clear hK K))
  first | refine WL.step rfl ?_ | refine WL.gstep rfl rfl rfl rfl ?_
  refine OpW.call ((find71 tag db FA fcap fs d s w h (by omega)).mono ?_) rfl
  rintro v w2 ⟨g2, ⟨hx, rfl⟩ | ⟨i, f, fb, hx, hi, hfb, hname, rfl⟩⟩
  · have e1 : d.read s = ([], 50) := by unfold PD.read; rw [if_neg (by simp [h1]), hx]
    repeat (first | refine WL.nil ?_ | refine WL.auto (h := ?_) | refine WL.gskip rfl rfl rfl rfl ?_ | refine WL.gauto (h := ?_) | (refine CW.seq ?_; intro K hK) | refine CW.block ?_ | refine CW.region ?_ | refine CW.skip ?_ | refine CW.exit ?_ | refine CW.ret ?_ | (refine thn_ret (K := K) ?_; clear hK K) | refine thn_ret ?_ | refine blk_ret ?_ | (refine thn_exit (K := K) ?_; clear hK K) | refine thn_exit ?_ | refine blk_here ?_ | refine blk_past rfl ?_ | refine thn_norm ?_ | refine blk_norm ?_ | refine CW.condT rfl ?_ | refine CW.condF rfl ?_ | (refine hK _ _ ?_; clear hK K))
    refine out2 (v1 := .slice none 0 0) (v2 := .int .i64 50) Try.results42 rfl rfl ?_ (Or.inr rfl)
    rw [e1]
    exact ⟨g2, none, 0, rfl, Own.nil _ _ _ _⟩
  · have e1 : d.read s = (f.data, 0) := by unfold PD.read; rw [if_neg (by simp [h1]), hx]; simp [hi]
    obtain ⟨ht, DA, dcap, hfc, hfo⟩ := (h.grow g2).file i f fb hi hfb
    repeat (first | refine WL.nil ?_ | refine WL.auto (h := ?_) | refine WL.gskip rfl rfl rfl rfl ?_ | refine WL.gauto (h := ?_) | (refine CW.seq ?_; intro K hK) | refine CW.block ?_ | refine CW.region ?_ | refine CW.skip ?_ | refine CW.exit ?_ | refine CW.ret ?_ | (refine thn_ret (K := K) ?_; clear hK K) | refine thn_ret ?_ | refine blk_ret ?_ | (refine thn_exit (K := K) ?_; clear hK K) | refine thn_exit ?_ | refine blk_here ?_ | refine blk_past rfl ?_ | refine thn_norm ?_ | refine blk_norm ?_ | refine CW.condT rfl ?_ | refine CW.condF rfl ?_ | (refine hK _ _ ?_; clear hK K))
    first | refine WL.step rfl ?_ | refine WL.gstep rfl rfl rfl rfl ?_
    refine OpW.call ((clone73 _ _ _ _ hfo.sl (by have := hd f (List.mem_of_getElem? hi); omega)).mono ?_) rfl
    rintro v w3 ⟨A3, c3, rfl, o3, g3⟩
    repeat (first | refine WL.nil ?_ | refine WL.auto (h := ?_) | refine WL.gskip rfl rfl rfl rfl ?_ | refine WL.gauto (h := ?_) | (refine CW.seq ?_; intro K hK) | refine CW.block ?_ | refine CW.region ?_ | refine CW.skip ?_ | refine CW.exit ?_ | refine CW.ret ?_ | (refine thn_ret (K := K) ?_; clear hK K) | refine thn_ret ?_ | refine blk_ret ?_ | (refine thn_exit (K := K) ?_; clear hK K) | refine thn_exit ?_ | refine blk_here ?_ | refine blk_past rfl ?_ | refine thn_norm ?_ | refine blk_norm ?_ | refine CW.condT rfl ?_ | refine CW.condF rfl ?_ | (refine hK _ _ ?_; clear hK K))
    refine out2 (v1 := .slice A3 f.data.length c3) (v2 := .int .i64 0) Try.results42 rfl rfl ?_ (Or.inr rfl)
    rw [e1]
    exact ⟨g2.then g3, A3, c3, rfl, o3.mono fun k hk => fresh_mono g2 k hk⟩
end B
end Go.Proofs.Ytlofcomnhecgfaa
/- Waiting of a disk. Sizes are bounded. -/
namespace Go.Proofs.Ytlofcomnhecgfaa
namespace B
attribute [local irreducible] OpW WL CW Ret Sl Blk thn blk outOf
set_option linter.unusedVariables false
set_option linter.unusedSimpArgs false
set_option maxRecDepth 4000

def waitOf (l : List PF) : Int := (l.map fun f => (f.data.length : Int) - (f.safe : Int)).sum
theorem waitOf_snoc {l : List PF} {k : Nat} (h : k < l.length) : waitOf (l.take (k + 1)) = waitOf (l.take k) + ((l[k].data.length : Int) - (l[k].safe : Int)) := by
  rw [List.take_succ_eq_append_getElem h]
  simp only [waitOf, List.map_append, List.sum_append, List.map_cons, List.map_nil, List.sum_cons, List.sum_nil, Int.add_zero]
theorem waitOf_le {l : List PF} (h : ∀ f ∈ l, f.data.length ≤ 1099511627776 ∧ f.safe ≤ f.data.length) : 0 ≤ waitOf l ∧ waitOf l ≤ 1099511627776 * (l.length : Int) := by
  induction l with
  | nil => simp [waitOf]
  | cons f l ih =>
    have h1 := h f (List.mem_cons_self ..)
    have h2 := ih fun g hg => h g (List.mem_cons_of_mem _ hg)
    simp only [waitOf, List.map_cons, List.sum_cons, List.length_cons] at h2 ⊢
    omega
theorem waiting40 (tag : Nat → Tag) (db : Nat) (FA : Option Addr) (fcap : Nat) (fs : List Nat) (d : PD) (w : World) (h : DiskAt tag w db FA fcap fs d) (hn : d.files.length ≤ 16) (hd : ∀ f ∈ d.files, f.data.length ≤ 1099511627776 ∧ f.safe ≤ f.data.length) :
    Ret Try.prog 40 #[.pointer (some ⟨db, 0, none⟩)] w fun v w' => Grow w w' ∧ v = .int .i64 (waitOf d.files) := by
  have hb := h.blk
  refine Ret.enter (fn := Try.f40) (N := 31) Try.func40 rfl Try.ntmps40 rfl ?_
  repeat (first | refine WL.nil ?_ | refine WL.auto (h := ?_) | refine WL.gskip rfl rfl rfl rfl ?_ | refine WL.gauto (h := ?_) | (refine CW.seq ?_; intro K hK) | refine CW.block ?_ | refine CW.region ?_ | refine CW.skip ?_ | refine CW.exit ?_ | refine CW.ret ?_ | (refine thn_ret (K := K) ?_; clear hK K) | refine thn_ret ?_ | refine blk_ret ?_ | (refine thn_exit (K := K) ?_; clear hK K) | refine thn_exit ?_ | refine blk_here ?_ | refine blk_past rfl ?_ | refine thn_norm ?_ | refine blk_norm ?_ | refine CW.condT rfl ?_ | refine CW.condF rfl ?_ | (refine hK _ _ ?_; clear hK K))
  refine CW.loop (fun n' e w2 => ∃ k, k ≤ d.files.length ∧ n' = d.files.length - k ∧ Grow w w2 ∧ ∃ e0, e = upd (upd (upd (upd e0 3 (.int .i64 (waitOf (d.files.take k)))) 11 (.slice FA d.files.length fcap)) 12 (.int .i64 d.files.length)) 13 (.int .i64 k)) d.files.length ?_ ?_
  · exact ⟨0, by omega, rfl, Chg.refl _ _, rep4 rfl rfl rfl rfl⟩
  rintro n' e w2 ⟨k, hk, rfl, g2, e0, rfl⟩ KJ hJ
  repeat (first | refine WL.nil ?_ | refine WL.auto (h := ?_) | refine WL.gskip rfl rfl rfl rfl ?_ | refine WL.gauto (h := ?_) | (refine CW.seq ?_; intro K hK) | refine CW.block ?_ | refine CW.region ?_ | refine CW.skip ?_ | refine CW.exit ?_ | refine CW.ret ?_ | (refine thn_ret (K := K) ?_; clear hK K) | refine thn_ret ?_ | refine blk_ret ?_ | (refine thn_exit (K := K) ?_; clear hK K) | refine thn_exit ?_ | refine blk_here ?_ | refine blk_past rfl ?_ | refine thn_norm ?_ | refine blk_norm ?_ | refine CW.condT rfl ?_ | refine CW.condF rfl ?_ | (refine hK _ _ ?_; clear hK K))
  refine CW.condP rfl (fun h2 => ?_) (fun h2 => ?_)
  · have hkl : k < d.files.length := by omega
    have hkf : k < fs.length := by rw [h.len]; exact hkl
    have hkb : k < (ptrs fs).length := by rw [ptrs_length]; exact hkf
    have hsl := (h.own.grow g2).sl
    obtain ⟨h3, DA, dcap, h4, h5⟩ := (h.grow g2).file k d.files[k] fs[k] (List.getElem?_eq_getElem hkl) (List.getElem?_eq_getElem hkf)
    have hat : (ptrs fs)[k]? = some (.pointer (some ⟨fs[k], 0, none⟩)) := by simp [ptrs, hkf]
    have hw := waitOf_le (l := d.files.take k) fun f hf => hd f (List.mem_of_mem_take hf)
    have hl : (d.files.take k).length ≤ 16 := by simp; omega
    have hf := hd d.files[k] (List.getElem_mem hkl)
    have hsn := waitOf_snoc hkl
    repeat (first | refine WL.nil ?_ | refine WL.auto (h := ?_) | refine WL.gskip rfl rfl rfl rfl ?_ | refine WL.gauto (h := ?_) | (refine CW.seq ?_; intro K hK) | refine CW.block ?_ | refine CW.region ?_ | refine CW.skip ?_ | refine CW.exit ?_ | refine CW.ret ?_ | (refine thn_ret (K := K) ?_; clear hK K) | refine thn_ret ?_ | refine blk_ret ?_ | (refine thn_exit (K := K) ?_; clear hK K) | refine thn_exit ?_ | refine blk_here ?_ | refine blk_past rfl ?_ | refine thn_norm ?_ | refine blk_norm ?_ | refine CW.condT rfl ?_ | refine CW.condF rfl ?_ | (refine hK _ _ ?_; clear hK K))
    first | refine WL.step rfl ?_ | refine WL.gstep rfl rfl rfl rfl ?_
    refine OpW.indexAddr k rfl rfl rfl hkl (sl_ne hsl hkb) (sl_sp hsl hkb) ?_
    repeat (first | refine WL.nil ?_ | refine WL.auto (h := ?_) | refine WL.gskip rfl rfl rfl rfl ?_ | refine WL.gauto (h := ?_) | (refine CW.seq ?_; intro K hK) | refine CW.block ?_ | refine CW.region ?_ | refine CW.skip ?_ | refine CW.exit ?_ | refine CW.ret ?_ | (refine thn_ret (K := K) ?_; clear hK K) | refine thn_ret ?_ | refine blk_ret ?_ | (refine thn_exit (K := K) ?_; clear hK K) | refine thn_exit ?_ | refine blk_here ?_ | refine blk_past rfl ?_ | refine thn_norm ?_ | refine blk_norm ?_ | refine CW.condT rfl ?_ | refine CW.condF rfl ?_ | (refine hK _ _ ?_; clear hK K))
    first | refine WL.step rfl ?_ | refine WL.gstep rfl rfl rfl rfl ?_
    refine OpW.loadS (v := .pointer (some ⟨fs[k], 0, none⟩)) rfl hsl (by simpa using hat) ?_
    repeat (first | refine WL.nil ?_ | refine WL.auto (h := ?_) | refine WL.gskip rfl rfl rfl rfl ?_ | refine WL.gauto (h := ?_) | (refine CW.seq ?_; intro K hK) | refine CW.block ?_ | refine CW.region ?_ | refine CW.skip ?_ | refine CW.exit ?_ | refine CW.ret ?_ | (refine thn_ret (K := K) ?_; clear hK K) | refine thn_ret ?_ | refine blk_ret ?_ | (refine thn_exit (K := K) ?_; clear hK K) | refine thn_exit ?_ | refine blk_here ?_ | refine blk_past rfl ?_ | refine thn_norm ?_ | refine blk_norm ?_ | refine CW.condT rfl ?_ | refine CW.condF rfl ?_ | (refine hK _ _ ?_; clear hK K))
    refine CW.quiet rfl (by kernel_rfl) ?_
    repeat (first | refine QL.nil ?_ | refine QL.auto (hn := ?_) | refine QL.gskip rfl rfl rfl rfl ?_ | refine QL.gauto (hn := ?_))
    intro w3 g3
    repeat (first | refine WL.nil ?_ | refine WL.auto (h := ?_) | refine WL.gskip rfl rfl rfl rfl ?_ | refine WL.gauto (h := ?_) | (refine CW.seq ?_; intro K hK) | refine CW.block ?_ | refine CW.region ?_ | refine CW.skip ?_ | refine CW.exit ?_ | refine CW.ret ?_ | (refine thn_ret (K := K) ?_; clear hK K) | refine thn_ret ?_ | refine blk_ret ?_ | (refine thn_exit (K := K) ?_; clear hK K) | refine thn_exit ?_ | refine blk_here ?_ | refine blk_past rfl ?_ | refine thn_norm ?_ | refine blk_norm ?_ | refine CW.condT rfl ?_ | refine CW.condF rfl ?_ | (refine hK _ _ ?_; clear hK K))
    exact hJ (d.files.length - (k + 1)) _ _ (by omega) ⟨k + 1, by omega, rfl, g2.then g3, rep4 (congrArg (Value.int .i64) (by rw [hsn])) rfl rfl (congrArg (Value.int .i64) (by omega))⟩
  · obtain rfl : k = d.files.length := by omega
    rw [List.take_length]
    repeat (first | refine WL.nil ?_ | refine WL.auto (h := ?_) | refine WL.gskip rfl rfl rfl rfl ?_ | refine WL.gauto (h := ?_) | (refine CW.seq ?_; intro K hK) | refine CW.block ?_ | refine CW.region ?_ | refine CW.skip ?_ | refine CW.exit ?_ | refine CW.ret ?_ | (refine thn_ret (K := K) ?_; clear hK K) | refine thn_ret ?_ | refine blk_ret ?_ | (refine thn_exit (K := K) ?_; clear hK K) | refine thn_exit ?_ | refine blk_here ?_ | refine blk_past rfl ?_ | refine thn_norm ?_ | refine blk_norm ?_ | refine CW.condT rfl ?_ | refine CW.condF rfl ?_ | (refine hK _ _ ?_; clear hK K))
    exact out1 Try.results40 rfl ⟨g2, rfl⟩ (Or.inr rfl)
end B
end Go.Proofs.Ytlofcomnhecgfaa
/- What a loss of power leaves, plain. -/
namespace Go.Proofs.Ytlofcomnhecgfaa
namespace B
set_option linter.unusedVariables false

/-- One byte that isn't safe: the bytes so far, how many of them will be left, what is still to be told of keeping. -/
def crashStep (st : List UInt8 × Nat × List Bool) (c : UInt8) : List UInt8 × Nat × List Bool :=
  match st.2.2 with
  | true :: ks => (st.1 ++ [c], st.1.length + 1, ks)
  | false :: ks => (st.1 ++ [0], st.2.1, ks)
  | [] => (st.1 ++ [0], st.2.1, [])
def crashRun (f : PF) (ks : List Bool) (k : Nat) : List UInt8 × Nat × List Bool := ((f.data.drop f.safe).take k).foldl crashStep (f.data.take f.safe, f.safe, ks)
def crashFile (f : PF) (ks : List Bool) : List UInt8 × List Bool :=
  let st := crashRun f ks (f.data.length - f.safe)
  (st.1.take st.2.1, st.2.2)
/-- Names and bytes that are left, file by file. -/
def crashAll : List PF → List Bool → List (List UInt8 × List UInt8) × List Bool
  | [], ks => ([], ks)
  | f :: l, ks => let r := crashFile f ks; let q := crashAll l r.2; ((f.name, r.1) :: q.1, q.2)
theorem crashRun_step {f : PF} {ks : List Bool} {k : Nat} (h : f.safe + k < f.data.length) : crashRun f ks (k + 1) = crashStep (crashRun f ks k) f.data[f.safe + k] := by
  unfold crashRun
  rw [List.take_succ_eq_append_getElem (by simp; omega), List.foldl_append]
  simp
theorem crashRun_len {f : PF} {ks : List Bool} {k : Nat} (h : f.safe + k ≤ f.data.length) : (crashRun f ks k).1.length = f.safe + k ∧ f.safe ≤ (crashRun f ks k).2.1 ∧ (crashRun f ks k).2.1 ≤ f.safe + k := by
  induction k with
  | zero => simp [crashRun]; omega
  | succ k ih =>
    have := ih (by omega)
    rw [crashRun_step (by omega)]
    unfold crashStep
    split <;> simp <;> omega
end B
end Go.Proofs.Ytlofcomnhecgfaa
/- What Crash hands back: files in new memory. No conditions. -/
namespace Go.Proofs.Ytlofcomnhecgfaa
namespace B
attribute [local irreducible] OpW WL CW Ret Sl Blk thn blk outOf
set_option linter.unusedVariables false
set_option linter.unusedSimpArgs false
set_option maxRecDepth 4000

theorem crashAll_snoc (l : List PF) (f : PF) (ks : List Bool) : crashAll (l ++ [f]) ks = ((crashAll l ks).1 ++ [(f.name, (crashFile f (crashAll l ks).2).1)], (crashFile f (crashAll l ks).2).2) := by
  induction l generalizing ks with
  | nil => simp [crashAll]
  | cons g l ih => simp [crashAll, ih]
theorem crashAll_length (l : List PF) (ks : List Bool) : (crashAll l ks).1.length = l.length := by
  induction l generalizing ks with
  | nil => simp [crashAll]
  | cons g l ih => simp [crashAll, ih]
/-- Files that were handed out: their row's cells in ZA, their bytes in ZD. -/
def FilesOut (w : World) (OA : Option Addr) (cap : Nat) (xs : List (List UInt8 × List UInt8)) (ZA ZD : Nat → Prop) : Prop :=
  ∃ cells : List Value, Own w OA 52 2 xs.length cap cells ZA ∧ ∀ i x, xs[i]? = some x → ∃ DA, (cells.drop (i * 2)).take 2 = [.string (bstr x.1), .slice DA x.2.length x.2.length] ∧ Own w DA 5 1 x.2.length x.2.length (bvs x.2) ZD
theorem FilesOut.keep {S : Nat → Prop} {w w' : World} {OA : Option Addr} {cap : Nat} {xs : List (List UInt8 × List UInt8)} {ZA ZD : Nat → Prop} (h : FilesOut w OA cap xs ZA ZD) (hc : Chg S w w') (h1 : ∀ b, ZA b → ¬ S b) (h2 : ∀ b, ZD b → ¬ S b) : FilesOut w' OA cap xs ZA ZD := by
  obtain ⟨cells, g1, g2⟩ := h
  refine ⟨cells, g1.keep hc h1, fun i x hx => ?_⟩
  obtain ⟨DA, g3, g4⟩ := g2 i x hx
  exact ⟨DA, g3, g4.keep hc h2⟩
theorem FilesOut.zone {w : World} {OA : Option Addr} {cap : Nat} {xs : List (List UInt8 × List UInt8)} {ZA ZD ZA' ZD' : Nat → Prop} (h : FilesOut w OA cap xs ZA ZD) (h1 : ∀ b, b < w.heap.size → ZA b → ZA' b) (h2 : ∀ b, b < w.heap.size → ZD b → ZD' b) : FilesOut w OA cap xs ZA' ZD' := by
  obtain ⟨cells, g1, g2⟩ := h
  refine ⟨cells, g1.zone fun a ha => h1 _ (g1.in_ ha).2 (g1.in_ ha).1, fun i x hx => ?_⟩
  obtain ⟨DA, g3, g4⟩ := g2 i x hx
  exact ⟨DA, g3, g4.zone fun a ha => h2 _ (g4.in_ ha).2 (g4.in_ ha).1⟩

theorem set_mid (a : List UInt8) (c u : UInt8) (b : List UInt8) : (a ++ c :: b).set a.length u = a ++ u :: b := by
  induction a with
  | nil => rfl
  | cons x a ih => simp [ih]
theorem set_at {a : List UInt8} {c u : UInt8} {b : List UInt8} {n : Nat} (h : a.length = n) : (a ++ c :: b).set n u = a ++ u :: b := by
  subst h; exact set_mid a c u b
theorem crash38 (tag : Nat → Tag) (db : Nat) (FA : Option Addr) (fcap : Nat) (fs : List Nat) (d : PD) (KA0 : Option Addr) (kcap0 : Nat) (ks : List Bool) (w : World) (h : DiskAt tag w db FA fcap fs d) (hn : d.files.length ≤ 16) (hd : ∀ f ∈ d.files, f.data.length ≤ 1099511627776 ∧ f.safe ≤ f.data.length)
    (hk : Sl w KA0 (ks.map .bool)) (hkl : ks.length ≤ 1099511627776) (hkc : ks.length ≤ kcap0) :
    Ret Try.prog 38 #[.pointer (some ⟨db, 0, none⟩), .slice KA0 ks.length kcap0] w fun v w' => Grow w w' ∧ ∃ (OA : Option Addr) (cap : Nat) (col : Nat → Bool), v = .slice OA (crashAll d.files ks).1.length cap ∧ FilesOut w' OA cap (crashAll d.files ks).1 (fun b => w.heap.size ≤ b ∧ col b = true) (fun b => w.heap.size ≤ b ∧ col b = false) := by
  have hb := h.blk
  refine Ret.enter (fn := Try.f38) (N := 75) Try.func38 rfl Try.ntmps38 rfl ?_
  repeat (first | refine WL.nil ?_ | refine WL.auto (h := ?_) | refine WL.gskip rfl rfl rfl rfl ?_ | refine WL.gauto (h := ?_) | (refine CW.seq ?_; intro K hK) | refine CW.block ?_ | refine CW.region ?_ | refine CW.skip ?_ | refine CW.exit ?_ | refine CW.ret ?_ | (refine thn_ret (K := K) ?_; clear hK K) | refine thn_ret ?_ | refine blk_ret ?_ | (refine thn_exit (K := K) ?_; clear hK K) | refine thn_exit ?_ | refine blk_here ?_ | refine blk_past rfl ?_ | refine thn_norm ?_ | refine blk_norm ?_ | refine CW.condT rfl ?_ | refine CW.condF rfl ?_ | (refine hK _ _ ?_; clear hK K))
  refine CW.loop (fun n' e w3 => ∃ (k : Nat) (OA : Option Addr) (ocap : Nat) (KA : Option Addr) (kcap : Nat) (col : Nat → Bool), k ≤ d.files.length ∧ n' = d.files.length - k ∧ Grow w w3 ∧ FilesOut w3 OA ocap (crashAll (d.files.take k) ks).1 (fun b => w.heap.size ≤ b ∧ col b = true) (fun b => w.heap.size ≤ b ∧ col b = false) ∧
    Sl w KA ((crashAll (d.files.take k) ks).2.map .bool) ∧ (crashAll (d.files.take k) ks).2.length ≤ ks.length ∧ (crashAll (d.files.take k) ks).2.length ≤ kcap ∧
    ∃ e0, e = upd (upd (upd (upd (upd e0 1 (.slice KA (crashAll (d.files.take k) ks).2.length kcap)) 5 (.slice OA (crashAll (d.files.take k) ks).1.length ocap)) 17 (.slice FA d.files.length fcap)) 18 (.int .i64 d.files.length)) 19 (.int .i64 k)) d.files.length ?_ ?_
  · exact ⟨0, none, 0, KA0, kcap0, fun _ => true, by omega, rfl, Chg.refl _ _, ⟨[], Own.nil _ _ _ _, fun i x hx => by simp [crashAll] at hx⟩, hk, Nat.le_refl _, hkc, rep5 rfl rfl rfl rfl rfl⟩
  rintro n' e w2 ⟨k, OA, ocap, KA, kcap, col, hkn, rfl, g2, ho, hk2, hkl2, hkc2, e0, rfl⟩ KJ hJ
  have hsn : ∀ hkl : k < d.files.length, crashAll (d.files.take (k + 1)) ks = ((crashAll (d.files.take k) ks).1 ++ [((d.files[k]).name, (crashFile (d.files[k]) (crashAll (d.files.take k) ks).2).1)], (crashFile (d.files[k]) (crashAll (d.files.take k) ks).2).2) := fun hkl => by rw [List.take_succ_eq_append_getElem hkl, crashAll_snoc]
  have hol : (crashAll (d.files.take k) ks).1.length = k := by rw [crashAll_length]; simp; omega
  generalize hr : crashAll (d.files.take k) ks = r at *
  obtain ⟨xs, rs⟩ := r
  simp only at ho hk2 hkl2 hkc2 hsn hol
  repeat (first | refine WL.nil ?_ | refine WL.auto (h := ?_) | refine WL.gskip rfl rfl rfl rfl ?_ | refine WL.gauto (h := ?_) | (refine CW.seq ?_; intro K hK) | refine CW.block ?_ | refine CW.region ?_ | refine CW.skip ?_ | refine CW.exit ?_ | refine CW.ret ?_ | (refine thn_ret (K := K) ?_; clear hK K) | refine thn_ret ?_ | refine blk_ret ?_ | (refine thn_exit (K := K) ?_; clear hK K) | refine thn_exit ?_ | refine blk_here ?_ | refine blk_past rfl ?_ | refine thn_norm ?_ | refine blk_norm ?_ | refine CW.condT rfl ?_ | refine CW.condF rfl ?_ | (refine hK _ _ ?_; clear hK K))
  refine CW.condP rfl (fun h2 => ?_) (fun h2 => ?_)
  · have hkl : k < d.files.length := by omega
    have hkf : k < fs.length := by rw [h.len]; exact hkl
    have hkb : k < (ptrs fs).length := by rw [ptrs_length]; exact hkf
    have hsl := (h.own.grow g2).sl
    obtain ⟨h3, DA, dcap, h4, h5⟩ := (h.grow g2).file k d.files[k] fs[k] (List.getElem?_eq_getElem hkl) (List.getElem?_eq_getElem hkf)
    have hat : (ptrs fs)[k]? = some (.pointer (some ⟨fs[k], 0, none⟩)) := by simp [ptrs, hkf]
    have hf := hd d.files[k] (List.getElem_mem hkl)
    have hsn1 := hsn hkl
    clear hsn
    generalize d.files[k] = f at *
    obtain ⟨hfl, hfs⟩ := hf
    repeat (first | refine WL.nil ?_ | refine WL.auto (h := ?_) | refine WL.gskip rfl rfl rfl rfl ?_ | refine WL.gauto (h := ?_) | (refine CW.seq ?_; intro K hK) | refine CW.block ?_ | refine CW.region ?_ | refine CW.skip ?_ | refine CW.exit ?_ | refine CW.ret ?_ | (refine thn_ret (K := K) ?_; clear hK K) | refine thn_ret ?_ | refine blk_ret ?_ | (refine thn_exit (K := K) ?_; clear hK K) | refine thn_exit ?_ | refine blk_here ?_ | refine blk_past rfl ?_ | refine thn_norm ?_ | refine blk_norm ?_ | refine CW.condT rfl ?_ | refine CW.condF rfl ?_ | (refine hK _ _ ?_; clear hK K))
    first | refine WL.step rfl ?_ | refine WL.gstep rfl rfl rfl rfl ?_
    refine OpW.indexAddr k rfl rfl rfl hkl (sl_ne hsl hkb) (sl_sp hsl hkb) ?_
    repeat (first | refine WL.nil ?_ | refine WL.auto (h := ?_) | refine WL.gskip rfl rfl rfl rfl ?_ | refine WL.gauto (h := ?_) | (refine CW.seq ?_; intro K hK) | refine CW.block ?_ | refine CW.region ?_ | refine CW.skip ?_ | refine CW.exit ?_ | refine CW.ret ?_ | (refine thn_ret (K := K) ?_; clear hK K) | refine thn_ret ?_ | refine blk_ret ?_ | (refine thn_exit (K := K) ?_; clear hK K) | refine thn_exit ?_ | refine blk_here ?_ | refine blk_past rfl ?_ | refine thn_norm ?_ | refine blk_norm ?_ | refine CW.condT rfl ?_ | refine CW.condF rfl ?_ | (refine hK _ _ ?_; clear hK K))
    first | refine WL.step rfl ?_ | refine WL.gstep rfl rfl rfl rfl ?_
    refine OpW.loadS (v := .pointer (some ⟨fs[k], 0, none⟩)) rfl hsl (by simpa using hat) ?_
    repeat (first | refine WL.nil ?_ | refine WL.auto (h := ?_) | refine WL.gskip rfl rfl rfl rfl ?_ | refine WL.gauto (h := ?_) | (refine CW.seq ?_; intro K hK) | refine CW.block ?_ | refine CW.region ?_ | refine CW.skip ?_ | refine CW.exit ?_ | refine CW.ret ?_ | (refine thn_ret (K := K) ?_; clear hK K) | refine thn_ret ?_ | refine blk_ret ?_ | (refine thn_exit (K := K) ?_; clear hK K) | refine thn_exit ?_ | refine blk_here ?_ | refine blk_past rfl ?_ | refine thn_norm ?_ | refine blk_norm ?_ | refine CW.condT rfl ?_ | refine CW.condF rfl ?_ | (refine hK _ _ ?_; clear hK K))
    have fk2 := h4.lt
    have fk0 : fs[k] < w.heap.size := (h.file k d.files[k] fs[k] (List.getElem?_eq_getElem hkl) (List.getElem?_eq_getElem hkf)).2.lt
    first | refine WL.step rfl ?_ | refine WL.gstep rfl rfl rfl rfl ?_
    refine OpW.call ((clone73 _ _ _ _ h5.sl (by omega)).mono ?_) rfl
    rintro v w3 ⟨A8, c8, rfl, o8, g3⟩
    replace h4 := h4.grow g3
    repeat (first | refine WL.nil ?_ | refine WL.auto (h := ?_) | refine WL.gskip rfl rfl rfl rfl ?_ | refine WL.gauto (h := ?_) | (refine CW.seq ?_; intro K hK) | refine CW.block ?_ | refine CW.region ?_ | refine CW.skip ?_ | refine CW.exit ?_ | refine CW.ret ?_ | (refine thn_ret (K := K) ?_; clear hK K) | refine thn_ret ?_ | refine blk_ret ?_ | (refine thn_exit (K := K) ?_; clear hK K) | refine thn_exit ?_ | refine blk_here ?_ | refine blk_past rfl ?_ | refine thn_norm ?_ | refine blk_norm ?_ | refine CW.condT rfl ?_ | refine CW.condF rfl ?_ | (refine hK _ _ ?_; clear hK K))
    refine CW.loop (fun n' e w4 => ∃ (m : Nat) (KA' : Option Addr) (kc' : Nat), f.safe + m ≤ f.data.length ∧ n' = f.data.length - f.safe - m ∧ Own w4 A8 5 1 f.data.length c8 (bvs ((crashRun f rs m).1 ++ f.data.drop (f.safe + m))) (fresh w2) ∧ Chg (fun b => ∃ a, A8 = some a ∧ a.block = b) w3 w4 ∧
      Sl w KA' ((crashRun f rs m).2.2.map .bool) ∧ (crashRun f rs m).2.2.length ≤ rs.length ∧ (crashRun f rs m).2.2.length ≤ kc' ∧
      ∃ e0, e = upd (upd (upd (upd (upd (upd (upd (upd (upd e0 1 (.slice KA' (crashRun f rs m).2.2.length kc')) 5 (.slice OA xs.length ocap)) 7 (.pointer (some ⟨fs[k], 0, none⟩))) 8 (.slice A8 f.data.length c8)) 9 (.int .i64 ((crashRun f rs m).2.1 : Nat))) 10 (.int .i64 ((f.safe + m : Nat) : Int))) 17 (.slice FA d.files.length fcap)) 18 (.int .i64 d.files.length)) 19 (.int .i64 k)) (f.data.length - f.safe) ?_ ?_
    · refine ⟨0, KA, kcap, by omega, rfl, ?_, Chg.refl _ _, hk2, Nat.le_refl _, hkc2, rep9 rfl rfl rfl rfl rfl rfl rfl rfl rfl⟩
      simpa [crashRun] using o8
    clear hk2 hkc2 h2 o8
    rintro n' e w4 ⟨m, KA', kc', hm, rfl, o8, c4, k1, k2, k3, e0, rfl⟩ KJ2 hJ2
    repeat (first | refine WL.nil ?_ | refine WL.auto (h := ?_) | refine WL.gskip rfl rfl rfl rfl ?_ | refine WL.gauto (h := ?_) | (refine CW.seq ?_; intro K hK) | refine CW.block ?_ | refine CW.region ?_ | refine CW.skip ?_ | refine CW.exit ?_ | refine CW.ret ?_ | (refine thn_ret (K := K) ?_; clear hK K) | refine thn_ret ?_ | refine blk_ret ?_ | (refine thn_exit (K := K) ?_; clear hK K) | refine thn_exit ?_ | refine blk_here ?_ | refine blk_past rfl ?_ | refine thn_norm ?_ | refine blk_norm ?_ | refine CW.condT rfl ?_ | refine CW.condF rfl ?_ | (refine hK _ _ ?_; clear hK K))
    refine CW.condP rfl (fun h6 => ?_) (fun h6 => ?_)
    · have hmc : f.safe + m < f.data.length := by omega
      have hst := crashRun_step (ks := rs) hmc
      have hln := (crashRun_len (ks := rs) hm).1
      have hdr : f.data.drop (f.safe + m) = f.data[f.safe + m] :: f.data.drop (f.safe + (m + 1)) := List.drop_eq_getElem_cons hmc
      generalize hs0 : crashRun f rs m = st at *
      obtain ⟨sb, sl, sk⟩ := st
      simp only at o8 k1 k2 k3 hln
      obtain ⟨c0, hc0⟩ : ∃ c0, f.data[f.safe + m] = c0 := ⟨_, rfl⟩
      rw [hc0] at hst hdr
      have hmc8 : f.safe + m < (bvs (sb ++ f.data.drop (f.safe + m))).length := by rw [bvs_length]; simp [hln]; omega
      have hset : (bvs (sb ++ f.data.drop (f.safe + m))).set (f.safe + m) (.int .u8 0) = bvs (sb ++ [0] ++ f.data.drop (f.safe + (m + 1))) := by
        have h1 := bvs_set (sb ++ f.data.drop (f.safe + m)) (f.safe + m) 0
        rw [show bv 0 = .int .u8 0 from rfl] at h1
        rw [← h1, hdr, set_at hln]
        simp
      have hkeep : bvs (sb ++ f.data.drop (f.safe + m)) = bvs (sb ++ [c0] ++ f.data.drop (f.safe + (m + 1))) := by
        rw [hdr]; simp
      have gw4 : Grow w w4 := (g2.then g3).chgNew c4 (by
        rintro i hi ⟨a, ha, rfl⟩
        have h7 : w2.heap.size ≤ a.block := (o8.in_ ha).1
        have h8 := g2.size
        omega)
      cases sk with
      | nil =>
        repeat (first | refine WL.nil ?_ | refine WL.auto (h := ?_) | refine WL.gskip rfl rfl rfl rfl ?_ | refine WL.gauto (h := ?_) | (refine CW.seq ?_; intro K hK) | refine CW.block ?_ | refine CW.region ?_ | refine CW.skip ?_ | refine CW.exit ?_ | refine CW.ret ?_ | (refine thn_ret (K := K) ?_; clear hK K) | refine thn_ret ?_ | refine blk_ret ?_ | (refine thn_exit (K := K) ?_; clear hK K) | refine thn_exit ?_ | refine blk_here ?_ | refine blk_past rfl ?_ | refine thn_norm ?_ | refine blk_norm ?_ | refine CW.condT rfl ?_ | refine CW.condF rfl ?_ | (refine hK _ _ ?_; clear hK K))
        first | refine WL.step rfl ?_ | refine WL.gstep rfl rfl rfl rfl ?_
        refine OpW.indexAddr (f.safe + m) rfl rfl rfl hmc (sl_ne o8.sl hmc8) (spot_own o8) ?_
        repeat (first | refine WL.nil ?_ | refine WL.auto (h := ?_) | refine WL.gskip rfl rfl rfl rfl ?_ | refine WL.gauto (h := ?_) | (refine CW.seq ?_; intro K hK) | refine CW.block ?_ | refine CW.region ?_ | refine CW.skip ?_ | refine CW.exit ?_ | refine CW.ret ?_ | (refine thn_ret (K := K) ?_; clear hK K) | refine thn_ret ?_ | refine blk_ret ?_ | (refine thn_exit (K := K) ?_; clear hK K) | refine thn_exit ?_ | refine blk_here ?_ | refine blk_past rfl ?_ | refine thn_norm ?_ | refine blk_norm ?_ | refine CW.condT rfl ?_ | refine CW.condF rfl ?_ | (refine hK _ _ ?_; clear hK K))
        refine WL.step0 ?_
        refine OpW.storeOwn (v := .int .u8 0) rfl rfl rfl o8 hmc ?_
        intro w5 o9 c5 _
        rw [hset] at o9
        repeat (first | refine WL.nil ?_ | refine WL.auto (h := ?_) | refine WL.gskip rfl rfl rfl rfl ?_ | refine WL.gauto (h := ?_) | (refine CW.seq ?_; intro K hK) | refine CW.block ?_ | refine CW.region ?_ | refine CW.skip ?_ | refine CW.exit ?_ | refine CW.ret ?_ | (refine thn_ret (K := K) ?_; clear hK K) | refine thn_ret ?_ | refine blk_ret ?_ | (refine thn_exit (K := K) ?_; clear hK K) | refine thn_exit ?_ | refine blk_here ?_ | refine blk_past rfl ?_ | refine thn_norm ?_ | refine blk_norm ?_ | refine CW.condT rfl ?_ | refine CW.condF rfl ?_ | (refine hK _ _ ?_; clear hK K))
        refine hJ2 (f.data.length - f.safe - (m + 1)) _ _ (by omega) ⟨m + 1, KA', kc', by omega, rfl, ?_, ?_, ?_, ?_, ?_, rep9 ?_ rfl rfl rfl ?_ (congrArg (Value.int .i64) (by omega)) rfl rfl rfl⟩
        · rw [hst]; exact o9
        · exact c4.andThen c5
        · rw [hst]; exact k1
        · rw [hst]; exact k2
        · rw [hst]; exact k3
        · rw [hst]; rfl
        · rw [hst]; rfl
      | cons kb sk =>
        have hpos : decide ((0 : Int) < (((kb :: sk).length : Nat) : Int)) = true := decide_eq_true (by simp only [List.length_cons]; omega)
        have k1r : Sl w4 KA' (.bool kb :: sk.map .bool) := k1.grow gw4
        repeat (first | refine WL.nil ?_ | refine WL.auto (h := ?_) | refine WL.gskip rfl rfl rfl rfl ?_ | refine WL.gauto (h := ?_) | (refine CW.seq ?_; intro K hK) | refine CW.block ?_ | refine CW.region ?_ | refine CW.skip ?_ | refine CW.exit ?_ | refine CW.ret ?_ | (refine thn_ret (K := K) ?_; clear hK K) | refine thn_ret ?_ | refine blk_ret ?_ | (refine thn_exit (K := K) ?_; clear hK K) | refine thn_exit ?_ | refine blk_here ?_ | refine blk_past rfl ?_ | refine thn_norm ?_ | refine blk_norm ?_ | refine CW.condT rfl ?_ | refine CW.condF rfl ?_ | (refine hK _ _ ?_; clear hK K))
        rw [hpos]
        repeat (first | refine WL.nil ?_ | refine WL.auto (h := ?_) | refine WL.gskip rfl rfl rfl rfl ?_ | refine WL.gauto (h := ?_) | (refine CW.seq ?_; intro K hK) | refine CW.block ?_ | refine CW.region ?_ | refine CW.skip ?_ | refine CW.exit ?_ | refine CW.ret ?_ | (refine thn_ret (K := K) ?_; clear hK K) | refine thn_ret ?_ | refine blk_ret ?_ | (refine thn_exit (K := K) ?_; clear hK K) | refine thn_exit ?_ | refine blk_here ?_ | refine blk_past rfl ?_ | refine thn_norm ?_ | refine blk_norm ?_ | refine CW.condT rfl ?_ | refine CW.condF rfl ?_ | (refine hK _ _ ?_; clear hK K))
        first | refine WL.step rfl ?_ | refine WL.gstep rfl rfl rfl rfl ?_
        refine OpW.indexAddr 0 rfl rfl rfl (by simp) (sl_ne k1r (i := 0) (by simp)) (sl_sp k1r (i := 0) (by simp)) ?_
        repeat (first | refine WL.nil ?_ | refine WL.auto (h := ?_) | refine WL.gskip rfl rfl rfl rfl ?_ | refine WL.gauto (h := ?_) | (refine CW.seq ?_; intro K hK) | refine CW.block ?_ | refine CW.region ?_ | refine CW.skip ?_ | refine CW.exit ?_ | refine CW.ret ?_ | (refine thn_ret (K := K) ?_; clear hK K) | refine thn_ret ?_ | refine blk_ret ?_ | (refine thn_exit (K := K) ?_; clear hK K) | refine thn_exit ?_ | refine blk_here ?_ | refine blk_past rfl ?_ | refine thn_norm ?_ | refine blk_norm ?_ | refine CW.condT rfl ?_ | refine CW.condF rfl ?_ | (refine hK _ _ ?_; clear hK K))
        rw [hpos]
        repeat (first | refine WL.nil ?_ | refine WL.auto (h := ?_) | refine WL.gskip rfl rfl rfl rfl ?_ | refine WL.gauto (h := ?_) | (refine CW.seq ?_; intro K hK) | refine CW.block ?_ | refine CW.region ?_ | refine CW.skip ?_ | refine CW.exit ?_ | refine CW.ret ?_ | (refine thn_ret (K := K) ?_; clear hK K) | refine thn_ret ?_ | refine blk_ret ?_ | (refine thn_exit (K := K) ?_; clear hK K) | refine thn_exit ?_ | refine blk_here ?_ | refine blk_past rfl ?_ | refine thn_norm ?_ | refine blk_norm ?_ | refine CW.condT rfl ?_ | refine CW.condF rfl ?_ | (refine hK _ _ ?_; clear hK K))
        first | refine WL.step rfl ?_ | refine WL.gstep rfl rfl rfl rfl ?_
        refine OpW.sliceLo 1 rfl rfl rfl (by simp) (sl_sp k1r (i := 0) (by simp)) (fun B hB => ?_)
        have k5 : Sl w B (sk.map .bool) := k1.drop' 1 (sl_sp k1r (i := 0) (by simp)) B (by
          rcases hB with ⟨h1, h2⟩ | h1
          · refine Or.inl ⟨h1, ?_⟩
            simp only [List.length_map, List.length_cons] at k3 ⊢; omega
          · exact Or.inr h1)
        have k6 : sk.length ≤ rs.length := by simp only [List.length_cons] at k2; omega
        have k7 : sk.length ≤ kc' - 1 := by simp only [List.length_cons] at k3; omega
        repeat (first | refine WL.nil ?_ | refine WL.auto (h := ?_) | refine WL.gskip rfl rfl rfl rfl ?_ | refine WL.gauto (h := ?_) | (refine CW.seq ?_; intro K hK) | refine CW.block ?_ | refine CW.region ?_ | refine CW.skip ?_ | refine CW.exit ?_ | refine CW.ret ?_ | (refine thn_ret (K := K) ?_; clear hK K) | refine thn_ret ?_ | refine blk_ret ?_ | (refine thn_exit (K := K) ?_; clear hK K) | refine thn_exit ?_ | refine blk_here ?_ | refine blk_past rfl ?_ | refine thn_norm ?_ | refine blk_norm ?_ | refine CW.condT rfl ?_ | refine CW.condF rfl ?_ | (refine hK _ _ ?_; clear hK K))
        cases kb with
        | true =>
          repeat (first | refine WL.nil ?_ | refine WL.auto (h := ?_) | refine WL.gskip rfl rfl rfl rfl ?_ | refine WL.gauto (h := ?_) | (refine CW.seq ?_; intro K hK) | refine CW.block ?_ | refine CW.region ?_ | refine CW.skip ?_ | refine CW.exit ?_ | refine CW.ret ?_ | (refine thn_ret (K := K) ?_; clear hK K) | refine thn_ret ?_ | refine blk_ret ?_ | (refine thn_exit (K := K) ?_; clear hK K) | refine thn_exit ?_ | refine blk_here ?_ | refine blk_past rfl ?_ | refine thn_norm ?_ | refine blk_norm ?_ | refine CW.condT rfl ?_ | refine CW.condF rfl ?_ | (refine hK _ _ ?_; clear hK K))
          rw [hkeep] at o8
          refine hJ2 (f.data.length - f.safe - (m + 1)) _ _ (by omega) ⟨m + 1, B, kc' - 1, by omega, rfl, ?_, ?_, ?_, ?_, ?_, rep9 ?_ rfl rfl rfl ?_ (congrArg (Value.int .i64) (by omega)) rfl rfl rfl⟩
          · rw [hst]; exact o8
          · exact c4
          · rw [hst]; exact k5
          · rw [hst]; exact k6
          · rw [hst]; exact k7
          · rw [hst]; rfl
          · rw [hst]; exact congrArg (Value.int .i64) (by show _ = ((sb.length + 1 : Nat) : Int); omega)
        | false =>
          repeat (first | refine WL.nil ?_ | refine WL.auto (h := ?_) | refine WL.gskip rfl rfl rfl rfl ?_ | refine WL.gauto (h := ?_) | (refine CW.seq ?_; intro K hK) | refine CW.block ?_ | refine CW.region ?_ | refine CW.skip ?_ | refine CW.exit ?_ | refine CW.ret ?_ | (refine thn_ret (K := K) ?_; clear hK K) | refine thn_ret ?_ | refine blk_ret ?_ | (refine thn_exit (K := K) ?_; clear hK K) | refine thn_exit ?_ | refine blk_here ?_ | refine blk_past rfl ?_ | refine thn_norm ?_ | refine blk_norm ?_ | refine CW.condT rfl ?_ | refine CW.condF rfl ?_ | (refine hK _ _ ?_; clear hK K))
          first | refine WL.step rfl ?_ | refine WL.gstep rfl rfl rfl rfl ?_
          refine OpW.indexAddr (f.safe + m) rfl rfl rfl hmc (sl_ne o8.sl hmc8) (spot_own o8) ?_
          repeat (first | refine WL.nil ?_ | refine WL.auto (h := ?_) | refine WL.gskip rfl rfl rfl rfl ?_ | refine WL.gauto (h := ?_) | (refine CW.seq ?_; intro K hK) | refine CW.block ?_ | refine CW.region ?_ | refine CW.skip ?_ | refine CW.exit ?_ | refine CW.ret ?_ | (refine thn_ret (K := K) ?_; clear hK K) | refine thn_ret ?_ | refine blk_ret ?_ | (refine thn_exit (K := K) ?_; clear hK K) | refine thn_exit ?_ | refine blk_here ?_ | refine blk_past rfl ?_ | refine thn_norm ?_ | refine blk_norm ?_ | refine CW.condT rfl ?_ | refine CW.condF rfl ?_ | (refine hK _ _ ?_; clear hK K))
          refine WL.step0 ?_
          refine OpW.storeOwn (v := .int .u8 0) rfl rfl rfl o8 hmc ?_
          intro w5 o9 c5 _
          rw [hset] at o9
          repeat (first | refine WL.nil ?_ | refine WL.auto (h := ?_) | refine WL.gskip rfl rfl rfl rfl ?_ | refine WL.gauto (h := ?_) | (refine CW.seq ?_; intro K hK) | refine CW.block ?_ | refine CW.region ?_ | refine CW.skip ?_ | refine CW.exit ?_ | refine CW.ret ?_ | (refine thn_ret (K := K) ?_; clear hK K) | refine thn_ret ?_ | refine blk_ret ?_ | (refine thn_exit (K := K) ?_; clear hK K) | refine thn_exit ?_ | refine blk_here ?_ | refine blk_past rfl ?_ | refine thn_norm ?_ | refine blk_norm ?_ | refine CW.condT rfl ?_ | refine CW.condF rfl ?_ | (refine hK _ _ ?_; clear hK K))
          refine hJ2 (f.data.length - f.safe - (m + 1)) _ _ (by omega) ⟨m + 1, B, kc' - 1, by omega, rfl, ?_, ?_, ?_, ?_, ?_, rep9 ?_ rfl rfl rfl ?_ (congrArg (Value.int .i64) (by omega)) rfl rfl rfl⟩
          · rw [hst]; exact o9
          · exact c4.andThen c5
          · rw [hst]; exact k5
          · rw [hst]; exact k6
          · rw [hst]; exact k7
          · rw [hst]; rfl
          · rw [hst]; rfl
    · obtain rfl : m = f.data.length - f.safe := by omega
      have hcf : crashFile f rs = ((crashRun f rs (f.data.length - f.safe)).1.take (crashRun f rs (f.data.length - f.safe)).2.1, (crashRun f rs (f.data.length - f.safe)).2.2) := rfl
      have hln := crashRun_len (ks := rs) hm
      generalize hs0 : crashRun f rs (f.data.length - f.safe) = st at *
      obtain ⟨sb, sl, sk⟩ := st
      simp only at o8 k1 k2 k3 hln hcf
      rw [List.drop_of_length_le (by omega), List.append_nil] at o8
      repeat (first | refine WL.nil ?_ | refine WL.auto (h := ?_) | refine WL.gskip rfl rfl rfl rfl ?_ | refine WL.gauto (h := ?_) | (refine CW.seq ?_; intro K hK) | refine CW.block ?_ | refine CW.region ?_ | refine CW.skip ?_ | refine CW.exit ?_ | refine CW.ret ?_ | (refine thn_ret (K := K) ?_; clear hK K) | refine thn_ret ?_ | refine blk_ret ?_ | (refine thn_exit (K := K) ?_; clear hK K) | refine thn_exit ?_ | refine blk_here ?_ | refine blk_past rfl ?_ | refine thn_norm ?_ | refine blk_norm ?_ | refine CW.condT rfl ?_ | refine CW.condF rfl ?_ | (refine hK _ _ ?_; clear hK K))
      have gw24 : Grow w2 w4 := g3.chgNew c4 (by
        rintro i hi ⟨a, ha, rfl⟩
        have h7 : w2.heap.size ≤ a.block := (o8.in_ ha).1
        omega)
      have h48 := h4.keep c4 (by
        rintro ⟨a, ha, e⟩
        have h7 : w2.heap.size ≤ a.block := (o8.in_ ha).1
        omega)
      obtain ⟨cells, ho1, ho2⟩ := ho
      have oa2 : ∀ a, OA = some a → a.block < w2.heap.size := fun a ha => (ho1.in_ ha).2
      replace ho1 := ho1.grow gw24
      have hnS : ¬ (∃ a, OA = some a ∧ a.block = fs[k]) := by
        rintro ⟨a, ha, e⟩
        have h7 := (ho1.in_ ha).1.1
        omega
      refine CW.held (fun b => ∃ a, OA = some a ∧ a.block = b) (.take 0 (.take 1 (.take 2 (.take 3 (.take 4 (.take 5 (.take 6 (.take 7 (.take 8 (.one 9 (.one 10 (.one 11 (.one 12 .nil))))))))))))) rfl (by kernel_rfl) (by kernel_rfl) (fun w5 g5 => ?_)
      repeat (first | refine AL.nil ?_ | refine AL.auto (hn := ?_) | refine AL.gskip rfl rfl rfl rfl rfl ?_ | refine AL.goneSkip rfl rfl rfl rfl rfl ?_ | refine AL.gauto (hn := ?_) | refine AL.oauto (hn := ?_))
      refine AL.take rfl rfl rfl (fun w6 hg => OpW.sliceHiMax sl rfl rfl rfl rfl rfl (by have := o8.le; omega) ⟨rfl, rfl⟩) ?_
      first | refine AL.one rfl rfl ?_ | refine AL.gone rfl rfl rfl rfl rfl ?_
      refine OpW.build (cells := #[.string (bstr f.name), .slice A8 sl sl]) rfl rfl ⟨id, ?_⟩
      first | refine AL.one rfl rfl ?_ | refine AL.gone rfl rfl rfl rfl rfl ?_
      refine OpW.buildOne (.agg #[.string (bstr f.name), .slice A8 sl sl]) rfl rfl rfl ?_
      intro b6 w6 n6
      refine ⟨fun h => h.grow n6.grow, ?_⟩
      first | refine AL.one rfl rfl ?_ | refine AL.gone rfl rfl rfl rfl rfl ?_
      refine OpW.append (ys := [.string (bstr f.name), .slice A8 sl sl]) rfl rfl rfl (ho1.grow (g5.then n6.grow)) (blk_sl_lit (vs := [.string (bstr f.name), .slice A8 sl sl]) n6) rfl (by intro v hv; simp only [List.mem_cons, List.not_mem_nil, or_false] at hv; rcases hv with rfl | rfl <;> rfl) ⟨by omega, by omega⟩ (fun OA' oc' w7 o7 c7 _ => ?_)
      refine ⟨fun h => h.andThen c7, ?_⟩
      repeat (first | refine AL.nil ?_ | refine AL.auto (hn := ?_) | refine AL.gskip rfl rfl rfl rfl rfl ?_ | refine AL.goneSkip rfl rfl rfl rfl rfl ?_ | refine AL.gauto (hn := ?_) | refine AL.oauto (hn := ?_))
      repeat (first | refine WL.nil ?_ | refine WL.auto (h := ?_) | refine WL.gskip rfl rfl rfl rfl ?_ | refine WL.gauto (h := ?_) | (refine CW.seq ?_; intro K hK) | refine CW.block ?_ | refine CW.region ?_ | refine CW.skip ?_ | refine CW.exit ?_ | refine CW.ret ?_ | (refine thn_ret (K := K) ?_; clear hK K) | refine thn_ret ?_ | refine blk_ret ?_ | (refine thn_exit (K := K) ?_; clear hK K) | refine thn_exit ?_ | refine blk_here ?_ | refine blk_past rfl ?_ | refine thn_norm ?_ | refine blk_norm ?_ | refine CW.condT rfl ?_ | refine CW.condF rfl ?_ | (refine hK _ _ ?_; clear hK K))
      have g46 := g5.then n6.grow
      have gw7 : Grow w w7 := ((g2.then gw24).then g46).chgNew c7 (by
        rintro i hi ⟨a, ha, rfl⟩
        have h7 := (ho1.in_ ha).1.1
        omega)
      have z4 : w2.heap.size ≤ w4.heap.size := gw24.size
      have z6 : w4.heap.size ≤ w6.heap.size := g46.size
      have z2 : w.heap.size ≤ w2.heap.size := g2.size
      have lt8 : ∀ a, A8 = some a → w2.heap.size ≤ a.block ∧ a.block < w4.heap.size := fun a ha => ⟨(o8.in_ ha).1, (o8.in_ ha).2⟩
      have hcl : cells.length = xs.length * 2 := ho1.1
      refine hJ (d.files.length - (k + 1)) _ _ (by omega) ⟨k + 1, OA', oc', KA', kc', fun b => if b < w2.heap.size then col b else decide (w4.heap.size ≤ b), by omega, rfl, gw7, ?_, ?_, ?_, ?_, rep5 ?_ ?_ rfl rfl (congrArg (Value.int .i64) (by omega))⟩
      · rw [hsn1, hcf]
        refine ⟨cells ++ [.string (bstr f.name), .slice A8 sl sl], ?_, ?_⟩
        · simp only [List.length_append, List.length_cons, List.length_nil]
          refine o7.zone fun a ha => ?_
          rcases (o7.in_ ha).1 with ⟨a', h1, h2⟩ | h1
          · have h7 := (ho1.in_ h1).1
            have h8 := oa2 a' h1
            rw [h2] at h7 h8
            exact ⟨h7.1, by show (if _ then _ else _) = _; rw [if_pos h8]; exact h7.2⟩
          · exact ⟨by omega, by show (if _ then _ else _) = _; rw [if_neg (by omega)]; exact decide_eq_true (by omega)⟩
        · intro i x hx
          rcases Nat.lt_or_ge i xs.length with hi | hi
          · rw [List.getElem?_append_left hi] at hx
            obtain ⟨DA', q1, q2⟩ := ho2 i x hx
            refine ⟨DA', ?_, ?_⟩
            · rw [List.drop_append_of_le_length (by omega), List.take_append_of_le_length (by simp; omega)]
              exact q1
            · refine (((q2.grow gw24).grow g46).keep c7 ?_).zone fun a ha => ?_
              · rintro b7 hb7 ⟨a, ha, rfl⟩
                have h7 := (ho1.in_ ha).1.2
                rw [hb7.2] at h7; cases h7
              · have h7 := q2.in_ ha
                exact ⟨h7.1.1, by show (if _ then _ else _) = _; rw [if_pos h7.2]; exact h7.1.2⟩
          · have hin : i = xs.length := by
              have := (List.getElem?_eq_some_iff.1 hx).1
              simp at this; omega
            subst hin
            rw [List.getElem?_append_right (Nat.le_refl _), Nat.sub_self] at hx
            simp only [List.getElem?_cons_zero, Option.some.injEq] at hx
            subst hx
            have hsl8 : sl ≤ sb.length := by omega
            have htl : (sb.take sl).length = sl := by simp; omega
            refine ⟨A8, ?_, ?_⟩
            · rw [← hcl, List.drop_left]
              show _ = [Value.string (bstr f.name), .slice A8 (sb.take sl).length (sb.take sl).length]
              rw [htl]; rfl
            · show Own w7 A8 5 1 (sb.take sl).length (sb.take sl).length (bvs (sb.take sl)) _
              rw [htl, ← bvs_take]
              have o9 := ((((o8.cut sl sl (by omega) (Nat.le_refl _) (by have := o8.le; omega)).grow g46).keep c7 (by
                rintro b7 hb7 ⟨a, ha, rfl⟩
                have h7 := oa2 a ha
                have h8 : w2.heap.size ≤ a.block := hb7
                omega)))
              rw [Nat.mul_one] at o9
              refine o9.zone fun a ha => ?_
              have h7 := lt8 a ha
              exact ⟨by omega, by show (if _ then _ else _) = _; rw [if_neg (by omega)]; exact decide_eq_false (by omega)⟩
      · rw [hsn1, hcf]; exact k1
      · rw [hsn1, hcf]; show sk.length ≤ ks.length; omega
      · rw [hsn1, hcf]; exact k3
      · rw [hsn1, hcf]; rfl
      · rw [hsn1, hcf]; exact congrArg (fun n => Value.slice OA' n oc') (by simp)
  · obtain rfl : k = d.files.length := by omega
    rw [List.take_length] at hr
    repeat (first | refine WL.nil ?_ | refine WL.auto (h := ?_) | refine WL.gskip rfl rfl rfl rfl ?_ | refine WL.gauto (h := ?_) | (refine CW.seq ?_; intro K hK) | refine CW.block ?_ | refine CW.region ?_ | refine CW.skip ?_ | refine CW.exit ?_ | refine CW.ret ?_ | (refine thn_ret (K := K) ?_; clear hK K) | refine thn_ret ?_ | refine blk_ret ?_ | (refine thn_exit (K := K) ?_; clear hK K) | refine thn_exit ?_ | refine blk_here ?_ | refine blk_past rfl ?_ | refine thn_norm ?_ | refine blk_norm ?_ | refine CW.condT rfl ?_ | refine CW.condF rfl ?_ | (refine hK _ _ ?_; clear hK K))
    refine out1 (v := .slice OA xs.length ocap) Try.results38 rfl ⟨g2, OA, ocap, col, ?_, ?_⟩ (Or.inr rfl)
    · rw [hr]
    · rw [hr]; exact ho
end B
end Go.Proofs.Ytlofcomnhecgfaa
/- Truncate of a disk; calls at a nil disk. Sizes are bounded. -/
namespace Go.Proofs.Ytlofcomnhecgfaa
namespace B
attribute [local irreducible] OpW WL CW Ret Sl Blk thn blk outOf
set_option linter.unusedVariables false
set_option linter.unusedSimpArgs false
set_option maxRecDepth 4000

def PD.truncate (d : PD) (s : List UInt8) (n : Int) : Int × PD :=
  let r := d.begin
  if r.2.1 ≠ 0 then (r.2.1, r.2.2) else
    match r.2.2.ix s with
    | none => (50, r.2.2)
    | some i => if n < 0 ∨ (((r.2.2.files[i]?.map fun f => f.data.length).getD 0 : Nat) : Int) < n then (2, r.2.2) else (0, { r.2.2 with files := r.2.2.files.modify i fun f => { f with data := f.data.take n.toNat, safe := min f.safe n.toNat } })
theorem truncate56 (tag : Nat → Tag) (db : Nat) (FA : Option Addr) (fcap : Nat) (fs : List Nat) (d : PD) (s : List UInt8) (n : Int) (w : World) (h : DiskAt tag w db FA fcap fs d) (ha : d.armed ≤ 9223372036854775807) (hn : d.files.length ≤ 16) :
    Ret Try.prog 56 #[.pointer (some ⟨db, 0, none⟩), .string (bstr s), .int .i64 n] w fun v w' => v = .int .i64 (d.truncate s n).1 ∧ DiskAt tag w' db FA fcap fs (d.truncate s n).2 ∧ Chg (fun b => (tag b).impl = true) w w' := by
  refine Ret.enter (fn := Try.f56) (N := 55) Try.func56 rfl Try.ntmps56 rfl ?_
  repeat (first | refine WL.nil ?_ | refine WL.auto (h := ?_) | refine WL.gskip rfl rfl rfl rfl ?_ | refine WL.gauto (h := ?_) | (refine CW.seq ?_; intro K hK) | refine CW.block ?_ | refine CW.region ?_ | refine CW.skip ?_ | refine CW.exit ?_ | refine CW.ret ?_ | (refine thn_ret (K := K) ?_; clear hK K) | refine thn_ret ?_ | refine blk_ret ?_ | (refine thn_exit (K := K) ?_; clear hK K) | refine thn_exit ?_ | refine blk_here ?_ | refine blk_past rfl ?_ | refine thn_norm ?_ | refine blk_norm ?_ | refine CW.condT rfl ?_ | refine CW.condF rfl ?_ | (refine hK _ _ ?_; clear hK K))
  first | refine WL.step rfl ?_ | refine WL.gstep rfl rfl rfl rfl ?_
  refine OpW.call ((begin70 tag db FA fcap fs d w h ha).mono ?_) rfl
  rintro v w1 ⟨rfl, h1, c1⟩
  have hf1 := begin_files d
  have t1 := h.toImpl c1
  generalize hbg : d.begin = r at *
  obtain ⟨dn, e, d1⟩ := r
  simp only at h1 hf1
  repeat (first | refine WL.nil ?_ | refine WL.auto (h := ?_) | refine WL.gskip rfl rfl rfl rfl ?_ | refine WL.gauto (h := ?_) | (refine CW.seq ?_; intro K hK) | refine CW.block ?_ | refine CW.region ?_ | refine CW.skip ?_ | refine CW.exit ?_ | refine CW.ret ?_ | (refine thn_ret (K := K) ?_; clear hK K) | refine thn_ret ?_ | refine blk_ret ?_ | (refine thn_exit (K := K) ?_; clear hK K) | refine thn_exit ?_ | refine blk_here ?_ | refine blk_past rfl ?_ | refine thn_norm ?_ | refine blk_norm ?_ | refine CW.condT rfl ?_ | refine CW.condF rfl ?_ | (refine hK _ _ ?_; clear hK K))
  refine CW.condP rfl (fun he => ?_) (fun he => ?_)
  · have e1 : d.truncate s n = (e, d1) := by unfold PD.truncate; rw [hbg]; simp only; rw [if_pos he]
    repeat (first | refine WL.nil ?_ | refine WL.auto (h := ?_) | refine WL.gskip rfl rfl rfl rfl ?_ | refine WL.gauto (h := ?_) | (refine CW.seq ?_; intro K hK) | refine CW.block ?_ | refine CW.region ?_ | refine CW.skip ?_ | refine CW.exit ?_ | refine CW.ret ?_ | (refine thn_ret (K := K) ?_; clear hK K) | refine thn_ret ?_ | refine blk_ret ?_ | (refine thn_exit (K := K) ?_; clear hK K) | refine thn_exit ?_ | refine blk_here ?_ | refine blk_past rfl ?_ | refine thn_norm ?_ | refine blk_norm ?_ | refine CW.condT rfl ?_ | refine CW.condF rfl ?_ | (refine hK _ _ ?_; clear hK K))
    refine out1 (v := .int .i64 e) Try.results56 rfl ?_ (Or.inr rfl)
    rw [e1]
    exact ⟨rfl, h1, t1⟩
  have he0 : e = 0 := by simpa using he
  subst he0
  repeat (first | refine WL.nil ?_ | refine WL.auto (h := ?_) | refine WL.gskip rfl rfl rfl rfl ?_ | refine WL.gauto (h := ?_) | (refine CW.seq ?_; intro K hK) | refine CW.block ?_ | refine CW.region ?_ | refine CW.skip ?_ | refine CW.exit ?_ | refine CW.ret ?_ | (refine thn_ret (K := K) ?_; clear hK K) | refine thn_ret ?_ | refine blk_ret ?_ | (refine thn_exit (K := K) ?_; clear hK K) | refine thn_exit ?_ | refine blk_here ?_ | refine blk_past rfl ?_ | refine thn_norm ?_ | refine blk_norm ?_ | refine CW.condT rfl ?_ | refine CW.condF rfl ?_ | (refine hK _ _ ?_; clear hK K))
  first | refine WL.step rfl ?_ | refine WL.gstep rfl rfl rfl rfl ?_
  refine OpW.call ((find71 tag db FA fcap fs d1 s w1 h1 (by rw [hf1]; omega)).mono ?_) rfl
  rintro v w2 ⟨g2, ⟨hx, rfl⟩ | ⟨i, f, fb, hx, hi, hfb, hname, rfl⟩⟩
  · have e1 : d.truncate s n = (50, d1) := by unfold PD.truncate; rw [hbg]; simp only; rw [if_neg (by simp), hx]
    repeat (first | refine WL.nil ?_ | refine WL.auto (h := ?_) | refine WL.gskip rfl rfl rfl rfl ?_ | refine WL.gauto (h := ?_) | (refine CW.seq ?_; intro K hK) | refine CW.block ?_ | refine CW.region ?_ | refine CW.skip ?_ | refine CW.exit ?_ | refine CW.ret ?_ | (refine thn_ret (K := K) ?_; clear hK K) | refine thn_ret ?_ | refine blk_ret ?_ | (refine thn_exit (K := K) ?_; clear hK K) | refine thn_exit ?_ | refine blk_here ?_ | refine blk_past rfl ?_ | refine thn_norm ?_ | refine blk_norm ?_ | refine CW.condT rfl ?_ | refine CW.condF rfl ?_ | (refine hK _ _ ?_; clear hK K))
    refine out1 (v := .int .i64 50) Try.results56 rfl ?_ (Or.inr rfl)
    rw [e1]
    exact ⟨rfl, h1.grow g2, t1.grow g2⟩
  · have h2 := h1.grow g2
    have e1 : d.truncate s n = if n < 0 ∨ (f.data.length : Int) < n then (2, d1) else (0, { d1 with files := d1.files.set i { f with data := f.data.take n.toNat, safe := min f.safe n.toNat } }) := by
      unfold PD.truncate; rw [hbg]; simp only; rw [if_neg (by simp), hx]
      show (if n < 0 ∨ (((d1.files[i]?.map fun f => f.data.length).getD 0 : Nat) : Int) < n then ((2 : Int), d1) else (0, ({ d1 with files := d1.files.modify i fun f => { f with data := f.data.take n.toNat, safe := min f.safe n.toNat } } : PD))) = _
      rw [modify_set hi, hi]
      rfl
    obtain ⟨ht, DA, dcap, hfc, hfo⟩ := h2.file i f fb hi hfb
    by_cases hbad : n < 0 ∨ (f.data.length : Int) < n
    · rw [if_pos hbad] at e1
      by_cases hn0 : n < 0
      · repeat (first | refine WL.nil ?_ | refine WL.auto (h := ?_) | refine WL.gskip rfl rfl rfl rfl ?_ | refine WL.gauto (h := ?_) | (refine CW.seq ?_; intro K hK) | refine CW.block ?_ | refine CW.region ?_ | refine CW.skip ?_ | refine CW.exit ?_ | refine CW.ret ?_ | (refine thn_ret (K := K) ?_; clear hK K) | refine thn_ret ?_ | refine blk_ret ?_ | (refine thn_exit (K := K) ?_; clear hK K) | refine thn_exit ?_ | refine blk_here ?_ | refine blk_past rfl ?_ | refine thn_norm ?_ | refine blk_norm ?_ | refine CW.condT rfl ?_ | refine CW.condF rfl ?_ | (refine hK _ _ ?_; clear hK K))
        rw [decide_eq_true hn0]
        repeat (first | refine WL.nil ?_ | refine WL.auto (h := ?_) | refine WL.gskip rfl rfl rfl rfl ?_ | refine WL.gauto (h := ?_) | (refine CW.seq ?_; intro K hK) | refine CW.block ?_ | refine CW.region ?_ | refine CW.skip ?_ | refine CW.exit ?_ | refine CW.ret ?_ | (refine thn_ret (K := K) ?_; clear hK K) | refine thn_ret ?_ | refine blk_ret ?_ | (refine thn_exit (K := K) ?_; clear hK K) | refine thn_exit ?_ | refine blk_here ?_ | refine blk_past rfl ?_ | refine thn_norm ?_ | refine blk_norm ?_ | refine CW.condT rfl ?_ | refine CW.condF rfl ?_ | (refine hK _ _ ?_; clear hK K))
        refine out1 (v := .int .i64 2) Try.results56 rfl ?_ (Or.inr rfl)
        rw [e1]
        exact ⟨rfl, h2, t1.grow g2⟩
      · have hn1 := hbad.resolve_left hn0
        repeat (first | refine WL.nil ?_ | refine WL.auto (h := ?_) | refine WL.gskip rfl rfl rfl rfl ?_ | refine WL.gauto (h := ?_) | (refine CW.seq ?_; intro K hK) | refine CW.block ?_ | refine CW.region ?_ | refine CW.skip ?_ | refine CW.exit ?_ | refine CW.ret ?_ | (refine thn_ret (K := K) ?_; clear hK K) | refine thn_ret ?_ | refine blk_ret ?_ | (refine thn_exit (K := K) ?_; clear hK K) | refine thn_exit ?_ | refine blk_here ?_ | refine blk_past rfl ?_ | refine thn_norm ?_ | refine blk_norm ?_ | refine CW.condT rfl ?_ | refine CW.condF rfl ?_ | (refine hK _ _ ?_; clear hK K))
        rw [decide_eq_false hn0]
        repeat (first | refine WL.nil ?_ | refine WL.auto (h := ?_) | refine WL.gskip rfl rfl rfl rfl ?_ | refine WL.gauto (h := ?_) | (refine CW.seq ?_; intro K hK) | refine CW.block ?_ | refine CW.region ?_ | refine CW.skip ?_ | refine CW.exit ?_ | refine CW.ret ?_ | (refine thn_ret (K := K) ?_; clear hK K) | refine thn_ret ?_ | refine blk_ret ?_ | (refine thn_exit (K := K) ?_; clear hK K) | refine thn_exit ?_ | refine blk_here ?_ | refine blk_past rfl ?_ | refine thn_norm ?_ | refine blk_norm ?_ | refine CW.condT rfl ?_ | refine CW.condF rfl ?_ | (refine hK _ _ ?_; clear hK K))
        rw [decide_eq_true hn1]
        repeat (first | refine WL.nil ?_ | refine WL.auto (h := ?_) | refine WL.gskip rfl rfl rfl rfl ?_ | refine WL.gauto (h := ?_) | (refine CW.seq ?_; intro K hK) | refine CW.block ?_ | refine CW.region ?_ | refine CW.skip ?_ | refine CW.exit ?_ | refine CW.ret ?_ | (refine thn_ret (K := K) ?_; clear hK K) | refine thn_ret ?_ | refine blk_ret ?_ | (refine thn_exit (K := K) ?_; clear hK K) | refine thn_exit ?_ | refine blk_here ?_ | refine blk_past rfl ?_ | refine thn_norm ?_ | refine blk_norm ?_ | refine CW.condT rfl ?_ | refine CW.condF rfl ?_ | (refine hK _ _ ?_; clear hK K))
        refine out1 (v := .int .i64 2) Try.results56 rfl ?_ (Or.inr rfl)
        rw [e1]
        exact ⟨rfl, h2, t1.grow g2⟩
    · rw [if_neg hbad] at e1
      have hn0 : ¬ n < 0 := fun h => hbad (Or.inl h)
      have hn1 : ¬ (f.data.length : Int) < n := fun h => hbad (Or.inr h)
      repeat (first | refine WL.nil ?_ | refine WL.auto (h := ?_) | refine WL.gskip rfl rfl rfl rfl ?_ | refine WL.gauto (h := ?_) | (refine CW.seq ?_; intro K hK) | refine CW.block ?_ | refine CW.region ?_ | refine CW.skip ?_ | refine CW.exit ?_ | refine CW.ret ?_ | (refine thn_ret (K := K) ?_; clear hK K) | refine thn_ret ?_ | refine blk_ret ?_ | (refine thn_exit (K := K) ?_; clear hK K) | refine thn_exit ?_ | refine blk_here ?_ | refine blk_past rfl ?_ | refine thn_norm ?_ | refine blk_norm ?_ | refine CW.condT rfl ?_ | refine CW.condF rfl ?_ | (refine hK _ _ ?_; clear hK K))
      rw [decide_eq_false hn0]
      repeat (first | refine WL.nil ?_ | refine WL.auto (h := ?_) | refine WL.gskip rfl rfl rfl rfl ?_ | refine WL.gauto (h := ?_) | (refine CW.seq ?_; intro K hK) | refine CW.block ?_ | refine CW.region ?_ | refine CW.skip ?_ | refine CW.exit ?_ | refine CW.ret ?_ | (refine thn_ret (K := K) ?_; clear hK K) | refine thn_ret ?_ | refine blk_ret ?_ | (refine thn_exit (K := K) ?_; clear hK K) | refine thn_exit ?_ | refine blk_here ?_ | refine blk_past rfl ?_ | refine thn_norm ?_ | refine blk_norm ?_ | refine CW.condT rfl ?_ | refine CW.condF rfl ?_ | (refine hK _ _ ?_; clear hK K))
      rw [decide_eq_false hn1]
      repeat (first | refine WL.nil ?_ | refine WL.auto (h := ?_) | refine WL.gskip rfl rfl rfl rfl ?_ | refine WL.gauto (h := ?_) | (refine CW.seq ?_; intro K hK) | refine CW.block ?_ | refine CW.region ?_ | refine CW.skip ?_ | refine CW.exit ?_ | refine CW.ret ?_ | (refine thn_ret (K := K) ?_; clear hK K) | refine thn_ret ?_ | refine blk_ret ?_ | (refine thn_exit (K := K) ?_; clear hK K) | refine thn_exit ?_ | refine blk_here ?_ | refine blk_past rfl ?_ | refine thn_norm ?_ | refine blk_norm ?_ | refine CW.condT rfl ?_ | refine CW.condF rfl ?_ | (refine hK _ _ ?_; clear hK K))
      refine CW.held2 17 (fun _ => False) (· = fb) (.take 0 (.take 1 (.take 2 (.take 3 (.take 4 (.take 5 (.take 6 (.take 7 (.take 8 (.take 9 (.take 10 (.take 11 (.take 12 (.take 13 (.take 14 (.take 15 (.take 16 (.one 17 (.take 18 (.take 19 (.one 20 .nil))))))))))))))))))))) (fun _ h => h.elim) rfl (by kernel_rfl) (by kernel_rfl) (fun w3 g3 => ?_)
      repeat (first | refine AL2.autoU (hn := ?_) | refine AL2.auto (hn := ?_) | refine AL2.gskip rfl rfl rfl rfl rfl ?_ | refine AL2.goneSkip rfl rfl rfl rfl rfl rfl ?_ | refine AL2.gskipU rfl rfl rfl rfl rfl ?_ | refine AL2.goneSkipU rfl rfl rfl rfl rfl rfl ?_ | refine AL2.gautoU (hn := ?_) | refine AL2.gauto (hn := ?_) | refine AL2.oauto (hn := ?_))
      refine AL2.takeU rfl rfl rfl (fun w hg => OpW.sliceHiMax n.toNat rfl rfl (by omega) rfl (by omega) (by have := hfo.le; omega) ⟨rfl, rfl⟩) ?_
      repeat (first | refine AL2.autoU (hn := ?_) | refine AL2.auto (hn := ?_) | refine AL2.gskip rfl rfl rfl rfl rfl ?_ | refine AL2.goneSkip rfl rfl rfl rfl rfl rfl ?_ | refine AL2.gskipU rfl rfl rfl rfl rfl ?_ | refine AL2.goneSkipU rfl rfl rfl rfl rfl rfl ?_ | refine AL2.gautoU (hn := ?_) | refine AL2.gauto (hn := ?_) | refine AL2.oauto (hn := ?_))
      refine AL2.last0 rfl rfl ?_
      refine OpW.store (v := .slice _ _ _) rfl rfl rfl (hfc.grow g3) rfl (c' := #[_, _, _]) rfl ?_
      intro w4 hp4 hb4
      refine ⟨fun h => (h.mono fun k _ hk => hk.elim).andThen hp4.chg, ?_⟩
      repeat (first | refine AL.nil ?_ | refine AL.auto (hn := ?_) | refine AL.gskip rfl rfl rfl rfl rfl ?_ | refine AL.goneSkip rfl rfl rfl rfl rfl ?_ | refine AL.gauto (hn := ?_) | refine AL.oauto (hn := ?_))
      refine AL.one0 rfl ?_
      refine OpW.store (v := .int _ _) rfl rfl rfl hb4 rfl (c' := #[_, _, _]) rfl ?_
      intro w5 hp5 hb5
      refine ⟨fun h => h.andThen hp5.chg, ?_⟩
      repeat (first | refine AL.nil ?_ | refine AL.auto (hn := ?_) | refine AL.gskip rfl rfl rfl rfl rfl ?_ | refine AL.goneSkip rfl rfl rfl rfl rfl ?_ | refine AL.gauto (hn := ?_) | refine AL.oauto (hn := ?_))
      repeat (first | refine WL.nil ?_ | refine WL.auto (h := ?_) | refine WL.gskip rfl rfl rfl rfl ?_ | refine WL.gauto (h := ?_) | (refine CW.seq ?_; intro K hK) | refine CW.block ?_ | refine CW.region ?_ | refine CW.skip ?_ | refine CW.exit ?_ | refine CW.ret ?_ | (refine thn_ret (K := K) ?_; clear hK K) | refine thn_ret ?_ | refine blk_ret ?_ | (refine thn_exit (K := K) ?_; clear hK K) | refine thn_exit ?_ | refine blk_here ?_ | refine blk_past rfl ?_ | refine thn_norm ?_ | refine blk_norm ?_ | refine CW.condT rfl ?_ | refine CW.condF rfl ?_ | (refine hK _ _ ?_; clear hK K))
      refine out1 (v := .int .i64 0) Try.results56 rfl ?_ (Or.inr rfl)
      rw [e1]
      have C25 : Chg (· = fb) w2 w5 := (Grow.chg g3 hp4.chg).andThen hp5.chg
      refine ⟨rfl, h2.setFile hi hfb C25 (fun k hk => by subst hk; exact Or.inl ht) ⟨DA, n.toNat, ?_, ?_⟩, (t1.grow g2).andThen (C25.mono fun k _ hk => by subst hk; rw [ht]; rfl)⟩
      · have hl : (f.data.take n.toNat).length = n.toNat := by simp; omega
        have hm : (if n < (f.safe : Int) then n else (f.safe : Int)) = ((min f.safe n.toNat : Nat) : Int) := by split <;> omega
        show Blk w5 fb #[.string (bstr f.name), .slice DA (f.data.take n.toNat).length n.toNat, .int .i64 ((min f.safe n.toNat : Nat) : Int)] 109
        rw [hl, ← hm]
        exact hb5
      · have hl : (f.data.take n.toNat).length = n.toNat := by simp; omega
        have o5 := ((hfo.cut n.toNat n.toNat (by omega) (Nat.le_refl _) (by have := hfo.le; omega)).keep C25 fun k hk e => by
          subst e
          rw [ht] at hk; cases hk)
        rw [Nat.mul_one, bvs_take] at o5
        show Own w5 DA 5 1 (f.data.take n.toNat).length n.toNat _ _
        rw [hl]
        exact o5
theorem truncateNil (s : List UInt8) (n : Int) (w : World) : Ret Try.prog 56 #[.pointer none, .string (bstr s), .int .i64 n] w fun v w' => v = .int .i64 1 ∧ Grow w w' := by
  refine Ret.enter (fn := Try.f56) (N := 55) Try.func56 rfl Try.ntmps56 rfl ?_
  repeat (first | refine WL.nil ?_ | refine WL.auto (h := ?_) | refine WL.gskip rfl rfl rfl rfl ?_ | refine WL.gauto (h := ?_) | (refine CW.seq ?_; intro K hK) | refine CW.block ?_ | refine CW.region ?_ | refine CW.skip ?_ | refine CW.exit ?_ | refine CW.ret ?_ | (refine thn_ret (K := K) ?_; clear hK K) | refine thn_ret ?_ | refine blk_ret ?_ | (refine thn_exit (K := K) ?_; clear hK K) | refine thn_exit ?_ | refine blk_here ?_ | refine blk_past rfl ?_ | refine thn_norm ?_ | refine blk_norm ?_ | refine CW.condT rfl ?_ | refine CW.condF rfl ?_ | (refine hK _ _ ?_; clear hK K))
  first | refine WL.step rfl ?_ | refine WL.gstep rfl rfl rfl rfl ?_
  refine OpW.call ((beginNil w).mono ?_) rfl
  rintro v w1 ⟨rfl, g1⟩
  repeat (first | refine WL.nil ?_ | refine WL.auto (h := ?_) | refine WL.gskip rfl rfl rfl rfl ?_ | refine WL.gauto (h := ?_) | (refine CW.seq ?_; intro K hK) | refine CW.block ?_ | refine CW.region ?_ | refine CW.skip ?_ | refine CW.exit ?_ | refine CW.ret ?_ | (refine thn_ret (K := K) ?_; clear hK K) | refine thn_ret ?_ | refine blk_ret ?_ | (refine thn_exit (K := K) ?_; clear hK K) | refine thn_exit ?_ | refine blk_here ?_ | refine blk_past rfl ?_ | refine thn_norm ?_ | refine blk_norm ?_ | refine CW.condT rfl ?_ | refine CW.condF rfl ?_ | (refine hK _ _ ?_; clear hK K))
  exact out1 (v := .int .i64 1) Try.results56 rfl ⟨rfl, g1⟩ (Or.inr rfl)
theorem syncNil (s : List UInt8) (w : World) : Ret Try.prog 41 #[.pointer none, .string (bstr s)] w fun v w' => v = .int .i64 1 ∧ Grow w w' := by
  refine Ret.enter (fn := Try.f41) (N := 29) Try.func41 rfl Try.ntmps41 rfl ?_
  repeat (first | refine WL.nil ?_ | refine WL.auto (h := ?_) | refine WL.gskip rfl rfl rfl rfl ?_ | refine WL.gauto (h := ?_) | (refine CW.seq ?_; intro K hK) | refine CW.block ?_ | refine CW.region ?_ | refine CW.skip ?_ | refine CW.exit ?_ | refine CW.ret ?_ | (refine thn_ret (K := K) ?_; clear hK K) | refine thn_ret ?_ | refine blk_ret ?_ | (refine thn_exit (K := K) ?_; clear hK K) | refine thn_exit ?_ | refine blk_here ?_ | refine blk_past rfl ?_ | refine thn_norm ?_ | refine blk_norm ?_ | refine CW.condT rfl ?_ | refine CW.condF rfl ?_ | (refine hK _ _ ?_; clear hK K))
  first | refine WL.step rfl ?_ | refine WL.gstep rfl rfl rfl rfl ?_
  refine OpW.call ((beginNil w).mono ?_) rfl
  rintro v w1 ⟨rfl, g1⟩
  repeat (first | refine WL.nil ?_ | refine WL.auto (h := ?_) | refine WL.gskip rfl rfl rfl rfl ?_ | refine WL.gauto (h := ?_) | (refine CW.seq ?_; intro K hK) | refine CW.block ?_ | refine CW.region ?_ | refine CW.skip ?_ | refine CW.exit ?_ | refine CW.ret ?_ | (refine thn_ret (K := K) ?_; clear hK K) | refine thn_ret ?_ | refine blk_ret ?_ | (refine thn_exit (K := K) ?_; clear hK K) | refine thn_exit ?_ | refine blk_here ?_ | refine blk_past rfl ?_ | refine thn_norm ?_ | refine blk_norm ?_ | refine CW.condT rfl ?_ | refine CW.condF rfl ?_ | (refine hK _ _ ?_; clear hK K))
  exact out1 (v := .int .i64 1) Try.results41 rfl ⟨rfl, g1⟩ (Or.inr rfl)
theorem appendNil (s : List UInt8) (B : Value) (w : World) : Ret Try.prog 33 #[.pointer none, .string (bstr s), B] w fun v w' => v = .int .i64 1 ∧ Grow w w' := by
  refine Ret.enter (fn := Try.f33) (N := 63) Try.func33 rfl Try.ntmps33 rfl ?_
  repeat (first | refine WL.nil ?_ | refine WL.auto (h := ?_) | refine WL.gskip rfl rfl rfl rfl ?_ | refine WL.gauto (h := ?_) | (refine CW.seq ?_; intro K hK) | refine CW.block ?_ | refine CW.region ?_ | refine CW.skip ?_ | refine CW.exit ?_ | refine CW.ret ?_ | (refine thn_ret (K := K) ?_; clear hK K) | refine thn_ret ?_ | refine blk_ret ?_ | (refine thn_exit (K := K) ?_; clear hK K) | refine thn_exit ?_ | refine blk_here ?_ | refine blk_past rfl ?_ | refine thn_norm ?_ | refine blk_norm ?_ | refine CW.condT rfl ?_ | refine CW.condF rfl ?_ | (refine hK _ _ ?_; clear hK K))
  first | refine WL.step rfl ?_ | refine WL.gstep rfl rfl rfl rfl ?_
  refine OpW.call ((beginNil w).mono ?_) rfl
  rintro v w1 ⟨rfl, g1⟩
  repeat (first | refine WL.nil ?_ | refine WL.auto (h := ?_) | refine WL.gskip rfl rfl rfl rfl ?_ | refine WL.gauto (h := ?_) | (refine CW.seq ?_; intro K hK) | refine CW.block ?_ | refine CW.region ?_ | refine CW.skip ?_ | refine CW.exit ?_ | refine CW.ret ?_ | (refine thn_ret (K := K) ?_; clear hK K) | refine thn_ret ?_ | refine blk_ret ?_ | (refine thn_exit (K := K) ?_; clear hK K) | refine thn_exit ?_ | refine blk_here ?_ | refine blk_past rfl ?_ | refine thn_norm ?_ | refine blk_norm ?_ | refine CW.condT rfl ?_ | refine CW.condF rfl ?_ | (refine hK _ _ ?_; clear hK K))
  exact out1 (v := .int .i64 1) Try.results33 rfl ⟨rfl, g1⟩ (Or.inr rfl)
theorem readNil (s : List UInt8) (w : World) : Ret Try.prog 42 #[.pointer none, .string (bstr s)] w fun v w' => v = .tuple #[.slice none 0 0, .int .i64 1] ∧ Grow w w' := by
  refine Ret.enter (fn := Try.f42) (N := 25) Try.func42 rfl Try.ntmps42 rfl ?_
  repeat (first | refine WL.nil ?_ | refine WL.auto (h := ?_) | refine WL.gskip rfl rfl rfl rfl ?_ | refine WL.gauto (h := ?_) | (refine CW.seq ?_; intro K hK) | refine CW.block ?_ | refine CW.region ?_ | refine CW.skip ?_ | refine CW.exit ?_ | refine CW.ret ?_ | (refine thn_ret (K := K) ?_; clear hK K) | refine thn_ret ?_ | refine blk_ret ?_ | (refine thn_exit (K := K) ?_; clear hK K) | refine thn_exit ?_ | refine blk_here ?_ | refine blk_past rfl ?_ | refine thn_norm ?_ | refine blk_norm ?_ | refine CW.condT rfl ?_ | refine CW.condF rfl ?_ | (refine hK _ _ ?_; clear hK K))
  exact out2 (v1 := .slice none 0 0) (v2 := .int .i64 1) Try.results42 rfl rfl ⟨rfl, Chg.refl _ _⟩ (Or.inr rfl)
theorem waitingNil (w : World) : Ret Try.prog 40 #[.pointer none] w fun v w' => v = .int .i64 0 ∧ Grow w w' := by
  refine Ret.enter (fn := Try.f40) (N := 31) Try.func40 rfl Try.ntmps40 rfl ?_
  repeat (first | refine WL.nil ?_ | refine WL.auto (h := ?_) | refine WL.gskip rfl rfl rfl rfl ?_ | refine WL.gauto (h := ?_) | (refine CW.seq ?_; intro K hK) | refine CW.block ?_ | refine CW.region ?_ | refine CW.skip ?_ | refine CW.exit ?_ | refine CW.ret ?_ | (refine thn_ret (K := K) ?_; clear hK K) | refine thn_ret ?_ | refine blk_ret ?_ | (refine thn_exit (K := K) ?_; clear hK K) | refine thn_exit ?_ | refine blk_here ?_ | refine blk_past rfl ?_ | refine thn_norm ?_ | refine blk_norm ?_ | refine CW.condT rfl ?_ | refine CW.condF rfl ?_ | (refine hK _ _ ?_; clear hK K))
  exact out1 (v := .int .i64 0) Try.results40 rfl ⟨rfl, Chg.refl _ _⟩ (Or.inr rfl)
theorem crashNil (B : Value) (w : World) : Ret Try.prog 38 #[.pointer none, B] w fun v w' => v = .slice none 0 0 ∧ Grow w w' := by
  refine Ret.enter (fn := Try.f38) (N := 75) Try.func38 rfl Try.ntmps38 rfl ?_
  repeat (first | refine WL.nil ?_ | refine WL.auto (h := ?_) | refine WL.gskip rfl rfl rfl rfl ?_ | refine WL.gauto (h := ?_) | (refine CW.seq ?_; intro K hK) | refine CW.block ?_ | refine CW.region ?_ | refine CW.skip ?_ | refine CW.exit ?_ | refine CW.ret ?_ | (refine thn_ret (K := K) ?_; clear hK K) | refine thn_ret ?_ | refine blk_ret ?_ | (refine thn_exit (K := K) ?_; clear hK K) | refine thn_exit ?_ | refine blk_here ?_ | refine blk_past rfl ?_ | refine thn_norm ?_ | refine blk_norm ?_ | refine CW.condT rfl ?_ | refine CW.condF rfl ?_ | (refine hK _ _ ?_; clear hK K))
  exact out1 (v := .slice none 0 0) Try.results38 rfl ⟨rfl, Chg.refl _ _⟩ (Or.inr rfl)
end B
end Go.Proofs.Ytlofcomnhecgfaa
/- Load of a disk. Sizes are bounded. -/
namespace Go.Proofs.Ytlofcomnhecgfaa
namespace B
attribute [local irreducible] OpW WL CW Ret Sl Blk thn blk outOf
set_option linter.unusedVariables false
set_option linter.unusedSimpArgs false
set_option maxRecDepth 4000

/-- A file more: its cells, its bytes and, it may be, the row of files in new blocks. -/
theorem DiskAt.snoc {tag : Nat → Tag} {w w' : World} {db fb : Nat} {FA FA' DA : Option Addr} {fcap fcap' cap : Nat} {fs : List Nat} {d : PD} {f : PF} (inA : Nat → Bool) (h : DiskAt tag w db FA fcap fs d)
    (C : Chg (fun k => k = db ∨ ∃ a, FA = some a ∧ a.block = k) w w')
    (hb : Blk w' db #[.slice FA' (d.files.length + 1) fcap', .bool d.off, .int .i64 (d.armed : Int)] 102)
    (ho : Own w' FA' 105 1 (d.files.length + 1) fcap' (ptrs (fs ++ [fb])) (fun b => (∃ a, FA = some a ∧ a.block = b) ∨ (w.heap.size ≤ b ∧ inA b = true)))
    (hf : w.heap.size ≤ fb) (hfa : inA fb = false) (hfb : Blk w' fb #[.string (bstr f.name), .slice DA f.data.length cap, .int .i64 (f.safe : Int)] 109)
    (hd : Own w' DA 5 1 f.data.length cap (bvs f.data) (fun b => w.heap.size ≤ b ∧ inA b = false ∧ b ≠ fb)) :
    ∃ tag', (∀ k, k < w.heap.size → tag' k = tag k) ∧ DiskAt tag' w' db FA' fcap' (fs ++ [fb]) { d with files := d.files ++ [f] } := by
  refine ⟨fun k => if k < w.heap.size then tag k else if k = fb then .file d.files.length else if inA k = true then .arr else .data d.files.length, fun k hk => if_pos hk, ?_⟩
  have hR := h.retag (tag' := fun k => if k < w.heap.size then tag k else if k = fb then .file d.files.length else if inA k = true then .arr else .data d.files.length) fun k hk => if_pos hk
  have tfb : (if fb < w.heap.size then tag fb else if fb = fb then Tag.file d.files.length else if inA fb = true then .arr else .data d.files.length) = .file d.files.length := by rw [if_neg (by omega), if_pos rfl]
  refine ⟨hR.tg, ?_, ?_, ?_, fun i g gb q1 q2 => ?_⟩
  · simpa using hb
  · have o6z := ho.zone (Z' := fun k => (if k < w.heap.size then tag k else if k = fb then Tag.file d.files.length else if inA k = true then .arr else .data d.files.length) = .arr) fun a ha => by
      rcases (ho.in_ ha).1 with ⟨a', h1', h2'⟩ | h1'
      · have q := h.own.in_ h1'
        rw [h2'] at q
        show (if _ then _ else _) = _
        rw [if_pos q.2]; exact q.1
      · show (if _ then _ else _) = _
        rw [if_neg (by omega), if_neg (fun e => by rw [e, hfa] at h1'; cases h1'.2), if_pos h1'.2]
    simpa using o6z
  · simp [h.len]
  · rcases Nat.lt_or_ge i d.files.length with hi | hi
    · rw [List.getElem?_append_left hi] at q1
      rw [List.getElem?_append_left (by rw [h.len]; exact hi)] at q2
      obtain ⟨r1, r2⟩ := hR.file i g gb q1 q2
      refine ⟨r1, r2.keep C ?_ fun k hk => ?_⟩
      · rintro (e | ⟨a, ha, e⟩)
        · rw [e, hR.tg] at r1; cases r1
        · have q := (hR.own.in_ ha).1
          rw [e, r1] at q; cases q
      · rintro (e | ⟨a, ha, e⟩)
        · rw [e, hR.tg] at hk; cases hk
        · have q := (hR.own.in_ ha).1
          rw [e, hk] at q; cases q
    · have hin : i = d.files.length := by
        have := (List.getElem?_eq_some_iff.1 q1).1
        simp at this; omega
      subst hin
      rw [List.getElem?_append_right (Nat.le_refl _), Nat.sub_self] at q1
      rw [List.getElem?_append_right (by rw [h.len]; exact Nat.le_refl _), h.len, Nat.sub_self] at q2
      simp only [List.getElem?_cons_zero, Option.some.injEq] at q1 q2
      subst q1 q2
      refine ⟨tfb, DA, cap, hfb, hd.zone fun a ha => ?_⟩
      have q := (hd.in_ ha).1
      show (if _ then _ else _) = _
      rw [if_neg (by omega), if_neg q.2.2, if_neg (by simp [q.2.1])]

/-- Files that came in: their row and their bytes in Z. -/
def FilesIn (w : World) (A : Option Addr) (xs : List (List UInt8 × List UInt8)) (Z : Nat → Prop) : Prop :=
  ∃ cells : List Value, Sl w A cells ∧ (cells ≠ [] → ∀ a, A = some a → Z a.block) ∧ cells.length = xs.length * 2 ∧ ∀ i x, xs[i]? = some x → ∃ DA cap, (cells.drop (i * 2)).take 2 = [.string (bstr x.1), .slice DA x.2.length cap] ∧ Sl w DA (bvs x.2) ∧ (bvs x.2 ≠ [] → ∀ a, DA = some a → Z a.block) ∧ x.2.length ≤ cap
theorem FilesIn.keep {S : Nat → Prop} {w w' : World} {A : Option Addr} {xs : List (List UInt8 × List UInt8)} {Z : Nat → Prop} (h : FilesIn w A xs Z) (hc : Chg S w w') (hn : ∀ b, Z b → ¬ S b) : FilesIn w' A xs Z := by
  obtain ⟨cells, h1, h2, h3, h4⟩ := h
  refine ⟨cells, h1.keepN hc fun hne a ha => hn _ (h2 hne a ha), h2, h3, fun i x hx => ?_⟩
  obtain ⟨DA, cap, k1, k2, k3, k4⟩ := h4 i x hx
  exact ⟨DA, cap, k1, k2.keepN hc fun hne a ha => hn _ (k3 hne a ha), k3, k4⟩
theorem FilesIn.grow {w w' : World} {A : Option Addr} {xs : List (List UInt8 × List UInt8)} {Z : Nat → Prop} (h : FilesIn w A xs Z) (hc : Grow w w') : FilesIn w' A xs Z := h.keep hc fun _ _ hf => hf
theorem FilesOut.in_ {w : World} {OA : Option Addr} {cap : Nat} {xs : List (List UInt8 × List UInt8)} {ZA ZD : Nat → Prop} (h : FilesOut w OA cap xs ZA ZD) : FilesIn w OA xs (fun b => ZA b ∨ ZD b) := by
  obtain ⟨cells, g1, g2⟩ := h
  refine ⟨cells, g1.sl, fun _ a ha => Or.inl (g1.in_ ha).1, g1.1, fun i x hx => ?_⟩
  obtain ⟨DA, g3, g4⟩ := g2 i x hx
  exact ⟨DA, _, g3, g4.sl, fun _ a ha => Or.inr (g4.in_ ha).1, Nat.le_refl _⟩

def loadGo (acc : List PF) : List (List UInt8 × List UInt8) → Option (List PF)
  | [] => some acc
  | x :: l => if rightName x.1 = false ∨ (PD.ix ⟨acc, false, 0⟩ x.1).isSome = true ∨ acc.length = 16 then none else loadGo (acc ++ [⟨x.1, x.2, x.2.length⟩]) l
/-- What Load leaves: no disk, or one with these files. -/
def Loaded (tag : Nat → Tag) (w w' : World) (v : Value) : Option (List PF) → Prop
  | none => v = .tuple #[.pointer none, .int .i64 50]
  | some l => ∃ db tag', v = .tuple #[.pointer (some ⟨db, 0, none⟩), .int .i64 0] ∧ (∀ k, k < w.heap.size → tag' k = tag k) ∧ DiskRep tag' w' db ⟨l, false, 0⟩
theorem load35 (tag : Nat → Tag) (A : Option Addr) (cap : Nat) (xs : List (List UInt8 × List UInt8)) (Z : Nat → Prop) (w : World) (hx : FilesIn w A xs Z) (hl : xs.length ≤ 1099511627776) (hs : ∀ x ∈ xs, x.1.length ≤ 1099511627776 ∧ x.2.length ≤ 1099511627776) :
    Ret Try.prog 35 #[.slice A xs.length cap] w fun v w' => Grow w w' ∧ Loaded tag w w' v (loadGo [] xs) := by
  refine Ret.enter (fn := Try.f35) (N := 54) Try.func35 rfl Try.ntmps35 rfl ?_
  repeat (first | refine WL.nil ?_ | refine WL.auto (h := ?_) | refine WL.gskip rfl rfl rfl rfl ?_ | refine WL.gauto (h := ?_) | (refine CW.seq ?_; intro K hK) | refine CW.block ?_ | refine CW.region ?_ | refine CW.skip ?_ | refine CW.exit ?_ | refine CW.ret ?_ | (refine thn_ret (K := K) ?_; clear hK K) | refine thn_ret ?_ | refine blk_ret ?_ | (refine thn_exit (K := K) ?_; clear hK K) | refine thn_exit ?_ | refine blk_here ?_ | refine blk_past rfl ?_ | refine thn_norm ?_ | refine blk_norm ?_ | refine CW.condT rfl ?_ | refine CW.condF rfl ?_ | (refine hK _ _ ?_; clear hK K))
  first | refine WL.step rfl ?_ | refine WL.gstep rfl rfl rfl rfl ?_
  refine OpW.call ((new30 w).mono ?_) rfl
  rintro v w1 ⟨db, rfl, n1⟩
  have d1 : DiskAt (fun b => if b < w.heap.size then tag b else .disk) w1 db none 0 [] ⟨[], false, 0⟩ :=
    ⟨by show (if _ then _ else _) = _; rw [if_neg (by have := n1.fresh; omega)], n1.blk, Own.nil _ _ _ _, rfl, fun i f fb h => by simp at h⟩
  have g1 := n1.grow
  repeat (first | refine WL.nil ?_ | refine WL.auto (h := ?_) | refine WL.gskip rfl rfl rfl rfl ?_ | refine WL.gauto (h := ?_) | (refine CW.seq ?_; intro K hK) | refine CW.block ?_ | refine CW.region ?_ | refine CW.skip ?_ | refine CW.exit ?_ | refine CW.ret ?_ | (refine thn_ret (K := K) ?_; clear hK K) | refine thn_ret ?_ | refine blk_ret ?_ | (refine thn_exit (K := K) ?_; clear hK K) | refine thn_exit ?_ | refine blk_here ?_ | refine blk_past rfl ?_ | refine thn_norm ?_ | refine blk_norm ?_ | refine CW.condT rfl ?_ | refine CW.condF rfl ?_ | (refine hK _ _ ?_; clear hK K))
  refine CW.loop (fun n' e w2 => ∃ (k : Nat) (acc : List PF) (tag' : Nat → Tag) (FA : Option Addr) (fcap : Nat) (fs : List Nat), k ≤ xs.length ∧ n' = xs.length - k ∧ loadGo [] xs = loadGo acc (xs.drop k) ∧ acc.length = k ∧ k ≤ 16 ∧ Grow w w2 ∧ (∀ j, j < w.heap.size → tag' j = tag j) ∧ DiskAt tag' w2 db FA fcap fs ⟨acc, false, 0⟩ ∧ w.heap.size ≤ db ∧
    (∀ a, FA = some a → w.heap.size ≤ a.block) ∧ ∃ e0, e = upd (upd (upd (upd e0 4 (.pointer (some ⟨db, 0, none⟩))) 8 (.slice A xs.length cap)) 9 (.int .i64 xs.length)) 10 (.int .i64 k)) xs.length ?_ ?_
  · exact ⟨0, [], _, none, 0, [], by omega, rfl, rfl, rfl, by omega, g1, fun j hj => if_pos hj, d1, n1.fresh, fun a ha => (by cases ha), rep4 rfl rfl rfl rfl⟩
  clear d1 g1 n1
  rintro n' e w2 ⟨k, acc, tag', FA, fcap, fs, hk, rfl, hgo, hal, hk16, g2, ht, hd, hdb, hFA, e0, rfl⟩ KJ hJ
  repeat (first | refine WL.nil ?_ | refine WL.auto (h := ?_) | refine WL.gskip rfl rfl rfl rfl ?_ | refine WL.gauto (h := ?_) | (refine CW.seq ?_; intro K hK) | refine CW.block ?_ | refine CW.region ?_ | refine CW.skip ?_ | refine CW.exit ?_ | refine CW.ret ?_ | (refine thn_ret (K := K) ?_; clear hK K) | refine thn_ret ?_ | refine blk_ret ?_ | (refine thn_exit (K := K) ?_; clear hK K) | refine thn_exit ?_ | refine blk_here ?_ | refine blk_past rfl ?_ | refine thn_norm ?_ | refine blk_norm ?_ | refine CW.condT rfl ?_ | refine CW.condF rfl ?_ | (refine hK _ _ ?_; clear hK K))
  refine CW.condP rfl (fun h2 => ?_) (fun h2 => ?_)
  · have hkl : k < xs.length := by omega
    have hx2 := hx.grow g2
    obtain ⟨cells, q1, q2, q3, q4⟩ := hx2
    obtain ⟨DA, dcap, k1, k2, k3, k4⟩ := q4 k xs[k] (List.getElem?_eq_getElem hkl)
    have hdrop : xs.drop k = xs[k] :: xs.drop (k + 1) := List.drop_eq_getElem_cons hkl
    rw [hdrop] at hgo
    obtain ⟨hs1, hs2⟩ := hs xs[k] (List.getElem_mem hkl)
    generalize xs[k] = x at *
    obtain ⟨nm, bs⟩ := x
    simp only at k1 k2 k4 hs1 hs2
    have hlt : k * 2 < cells.length := by omega
    repeat (first | refine WL.nil ?_ | refine WL.auto (h := ?_) | refine WL.gskip rfl rfl rfl rfl ?_ | refine WL.gauto (h := ?_) | (refine CW.seq ?_; intro K hK) | refine CW.block ?_ | refine CW.region ?_ | refine CW.skip ?_ | refine CW.exit ?_ | refine CW.ret ?_ | (refine thn_ret (K := K) ?_; clear hK K) | refine thn_ret ?_ | refine blk_ret ?_ | (refine thn_exit (K := K) ?_; clear hK K) | refine thn_exit ?_ | refine blk_here ?_ | refine blk_past rfl ?_ | refine thn_norm ?_ | refine blk_norm ?_ | refine CW.condT rfl ?_ | refine CW.condF rfl ?_ | (refine hK _ _ ?_; clear hK K))
    first | refine WL.step rfl ?_ | refine WL.gstep rfl rfl rfl rfl ?_
    refine OpW.indexAddr k rfl rfl rfl hkl (sl_ne q1 hlt) (sl_sp q1 hlt) ?_
    repeat (first | refine WL.nil ?_ | refine WL.auto (h := ?_) | refine WL.gskip rfl rfl rfl rfl ?_ | refine WL.gauto (h := ?_) | (refine CW.seq ?_; intro K hK) | refine CW.block ?_ | refine CW.region ?_ | refine CW.skip ?_ | refine CW.exit ?_ | refine CW.ret ?_ | (refine thn_ret (K := K) ?_; clear hK K) | refine thn_ret ?_ | refine blk_ret ?_ | (refine thn_exit (K := K) ?_; clear hK K) | refine thn_exit ?_ | refine blk_here ?_ | refine blk_past rfl ?_ | refine thn_norm ?_ | refine blk_norm ?_ | refine CW.condT rfl ?_ | refine CW.condF rfl ?_ | (refine hK _ _ ?_; clear hK K))
    first | refine WL.step rfl ?_ | refine WL.gstep rfl rfl rfl rfl ?_
    refine OpW.loadAggS _ rfl q1 k1 rfl (by decide) ?_
    repeat (first | refine WL.nil ?_ | refine WL.auto (h := ?_) | refine WL.gskip rfl rfl rfl rfl ?_ | refine WL.gauto (h := ?_) | (refine CW.seq ?_; intro K hK) | refine CW.block ?_ | refine CW.region ?_ | refine CW.skip ?_ | refine CW.exit ?_ | refine CW.ret ?_ | (refine thn_ret (K := K) ?_; clear hK K) | refine thn_ret ?_ | refine blk_ret ?_ | (refine thn_exit (K := K) ?_; clear hK K) | refine thn_exit ?_ | refine blk_here ?_ | refine blk_past rfl ?_ | refine thn_norm ?_ | refine blk_norm ?_ | refine CW.condT rfl ?_ | refine CW.condF rfl ?_ | (refine hK _ _ ?_; clear hK K))
    first | refine WL.step rfl ?_ | refine WL.gstep rfl rfl rfl rfl ?_
    refine OpW.alloc (fun b3 w3 n3 => ?_)
    repeat (first | refine WL.nil ?_ | refine WL.auto (h := ?_) | refine WL.gskip rfl rfl rfl rfl ?_ | refine WL.gauto (h := ?_) | (refine CW.seq ?_; intro K hK) | refine CW.block ?_ | refine CW.region ?_ | refine CW.skip ?_ | refine CW.exit ?_ | refine CW.ret ?_ | (refine thn_ret (K := K) ?_; clear hK K) | refine thn_ret ?_ | refine blk_ret ?_ | (refine thn_exit (K := K) ?_; clear hK K) | refine thn_exit ?_ | refine blk_here ?_ | refine blk_past rfl ?_ | refine thn_norm ?_ | refine blk_norm ?_ | refine CW.condT rfl ?_ | refine CW.condF rfl ?_ | (refine hK _ _ ?_; clear hK K))
    refine WL.step0 ?_
    refine OpW.storeAll rfl rfl rfl n3.blk rfl rfl (fun w4 p4 hb => ?_)
    have g4 : Grow w2 w4 := n3.grow.chgNew p4.chg (fun i hi h => by subst h; have := n3.fresh; omega)
    have hd4 := hd.grow g4
    have hb4 := hd4.blk
    have hf3 := n3.fresh
    have k24 := k2.grow g4
    repeat (first | refine WL.nil ?_ | refine WL.auto (h := ?_) | refine WL.gskip rfl rfl rfl rfl ?_ | refine WL.gauto (h := ?_) | (refine CW.seq ?_; intro K hK) | refine CW.block ?_ | refine CW.region ?_ | refine CW.skip ?_ | refine CW.exit ?_ | refine CW.ret ?_ | (refine thn_ret (K := K) ?_; clear hK K) | refine thn_ret ?_ | refine blk_ret ?_ | (refine thn_exit (K := K) ?_; clear hK K) | refine thn_exit ?_ | refine blk_here ?_ | refine blk_past rfl ?_ | refine thn_norm ?_ | refine blk_norm ?_ | refine CW.condT rfl ?_ | refine CW.condF rfl ?_ | (refine hK _ _ ?_; clear hK K))
    first | refine WL.step rfl ?_ | refine WL.gstep rfl rfl rfl rfl ?_
    refine OpW.call ((right72 nm w4 (by omega)).mono ?_) rfl
    rintro v w5 ⟨rfl, g5⟩
    have hd5 := hd4.grow g5
    have hb5 := hd5.blk
    replace hb := hb.grow g5
    have k25 := k24.grow g5
    have g25 := g4.then g5
    clear hb4 hd4
    cases hrn : rightName nm with
    | false =>
      repeat (first | refine WL.nil ?_ | refine WL.auto (h := ?_) | refine WL.gskip rfl rfl rfl rfl ?_ | refine WL.gskipU rfl rfl rfl rfl ?_ | refine WL.gauto (h := ?_) | (refine CW.seq ?_; intro K hK) | refine CW.block ?_ | refine CW.region ?_ | refine CW.skip ?_ | refine CW.exit ?_ | refine CW.ret ?_ | (refine thn_ret (K := K) ?_; clear hK K) | refine thn_ret ?_ | refine blk_ret ?_ | (refine thn_exit (K := K) ?_; clear hK K) | refine thn_exit ?_ | refine blk_here ?_ | refine blk_past rfl ?_ | refine thn_norm ?_ | refine blk_norm ?_ | refine CW.condT rfl ?_ | refine CW.condF rfl ?_ | (refine hK _ _ ?_; clear hK K))
      refine out2 (v1 := .pointer none) (v2 := .int .i64 50) Try.results35 rfl rfl ⟨g2.then g25, ?_⟩ (Or.inr rfl)
      rw [hgo, loadGo, if_pos (Or.inl hrn)]
      exact rfl
    | true =>
      repeat (first | refine WL.nil ?_ | refine WL.auto (h := ?_) | refine WL.gskip rfl rfl rfl rfl ?_ | refine WL.gskipU rfl rfl rfl rfl ?_ | refine WL.gauto (h := ?_) | (refine CW.seq ?_; intro K hK) | refine CW.block ?_ | refine CW.region ?_ | refine CW.skip ?_ | refine CW.exit ?_ | refine CW.ret ?_ | (refine thn_ret (K := K) ?_; clear hK K) | refine thn_ret ?_ | refine blk_ret ?_ | (refine thn_exit (K := K) ?_; clear hK K) | refine thn_exit ?_ | refine blk_here ?_ | refine blk_past rfl ?_ | refine thn_norm ?_ | refine blk_norm ?_ | refine CW.condT rfl ?_ | refine CW.condF rfl ?_ | (refine hK _ _ ?_; clear hK K))
      first | refine WL.step rfl ?_ | refine WL.gstep rfl rfl rfl rfl ?_
      refine OpW.call ((find71 tag' db FA fcap fs _ nm w5 hd5 (by show acc.length ≤ _; omega)).mono ?_) rfl
      rintro v w6 ⟨g6, ⟨hxn, rfl⟩ | ⟨i, f, fb, hxs, hi, hfb, hname, rfl⟩⟩
      · have hd6 := hd5.grow g6
        have hb6 := hd6.blk
        replace hb := hb.grow g6
        have k26 := k25.grow g6
        have g26 := g25.then g6
        clear hb5 hd5
        by_cases h16 : acc.length = 16
        · repeat (first | refine WL.nil ?_ | refine WL.auto (h := ?_) | refine WL.gskip rfl rfl rfl rfl ?_ | refine WL.gskipU rfl rfl rfl rfl ?_ | refine WL.gauto (h := ?_) | (refine CW.seq ?_; intro K hK) | refine CW.block ?_ | refine CW.region ?_ | refine CW.skip ?_ | refine CW.exit ?_ | refine CW.ret ?_ | (refine thn_ret (K := K) ?_; clear hK K) | refine thn_ret ?_ | refine blk_ret ?_ | (refine thn_exit (K := K) ?_; clear hK K) | refine thn_exit ?_ | refine blk_here ?_ | refine blk_past rfl ?_ | refine thn_norm ?_ | refine blk_norm ?_ | refine CW.condT rfl ?_ | refine CW.condF rfl ?_ | (refine hK _ _ ?_; clear hK K))
          rw [decide_eq_true (p := (acc.length : Int) = 16) (by omega)]
          repeat (first | refine WL.nil ?_ | refine WL.auto (h := ?_) | refine WL.gskip rfl rfl rfl rfl ?_ | refine WL.gskipU rfl rfl rfl rfl ?_ | refine WL.gauto (h := ?_) | (refine CW.seq ?_; intro K hK) | refine CW.block ?_ | refine CW.region ?_ | refine CW.skip ?_ | refine CW.exit ?_ | refine CW.ret ?_ | (refine thn_ret (K := K) ?_; clear hK K) | refine thn_ret ?_ | refine blk_ret ?_ | (refine thn_exit (K := K) ?_; clear hK K) | refine thn_exit ?_ | refine blk_here ?_ | refine blk_past rfl ?_ | refine thn_norm ?_ | refine blk_norm ?_ | refine CW.condT rfl ?_ | refine CW.condF rfl ?_ | (refine hK _ _ ?_; clear hK K))
          refine out2 (v1 := .pointer none) (v2 := .int .i64 50) Try.results35 rfl rfl ⟨g2.then g26, ?_⟩ (Or.inr rfl)
          rw [hgo, loadGo, if_pos (Or.inr (Or.inr h16))]
          exact rfl
        · repeat (first | refine WL.nil ?_ | refine WL.auto (h := ?_) | refine WL.gskip rfl rfl rfl rfl ?_ | refine WL.gskipU rfl rfl rfl rfl ?_ | refine WL.gauto (h := ?_) | (refine CW.seq ?_; intro K hK) | refine CW.block ?_ | refine CW.region ?_ | refine CW.skip ?_ | refine CW.exit ?_ | refine CW.ret ?_ | (refine thn_ret (K := K) ?_; clear hK K) | refine thn_ret ?_ | refine blk_ret ?_ | (refine thn_exit (K := K) ?_; clear hK K) | refine thn_exit ?_ | refine blk_here ?_ | refine blk_past rfl ?_ | refine thn_norm ?_ | refine blk_norm ?_ | refine CW.condT rfl ?_ | refine CW.condF rfl ?_ | (refine hK _ _ ?_; clear hK K))
          rw [decide_eq_false (p := (acc.length : Int) = 16) (by omega)]
          repeat (first | refine WL.nil ?_ | refine WL.auto (h := ?_) | refine WL.gskip rfl rfl rfl rfl ?_ | refine WL.gskipU rfl rfl rfl rfl ?_ | refine WL.gauto (h := ?_) | (refine CW.seq ?_; intro K hK) | refine CW.block ?_ | refine CW.region ?_ | refine CW.skip ?_ | refine CW.exit ?_ | refine CW.ret ?_ | (refine thn_ret (K := K) ?_; clear hK K) | refine thn_ret ?_ | refine blk_ret ?_ | (refine thn_exit (K := K) ?_; clear hK K) | refine thn_exit ?_ | refine blk_here ?_ | refine blk_past rfl ?_ | refine thn_norm ?_ | refine blk_norm ?_ | refine CW.condT rfl ?_ | refine CW.condF rfl ?_ | (refine hK _ _ ?_; clear hK K))
          have hne1 : ¬ (∃ a, FA = some a ∧ a.block = db) := by
            rintro ⟨a, ha, e⟩
            have := (hd6.own.in_ ha).1
            rw [e, hd6.tg] at this; cases this
          have hne2 : ¬ (∃ a, FA = some a ∧ a.block = b3) := by
            rintro ⟨a, ha, e⟩
            have := (hd.own.in_ ha).2
            omega
          have dlt : db < w2.heap.size := hd.blk.lt
          refine CW.held2 19 (fun b => ∃ a, FA = some a ∧ a.block = b) (fun b => b = db ∨ ∃ a, FA = some a ∧ a.block = b) (.take 0 (.take 1 (.take 2 (.take 3 (.take 4 (.take 5 (.take 6 (.take 7 (.take 8 (.take 10 (.take 11 (.take 12 (.one 9 (.one 13 (.one 14 (.one 15 (.one 16 (.take 17 (.take 18 (.one 19 .nil)))))))))))))))))))) (fun _ h => Or.inr h) rfl (by kernel_rfl) (by kernel_rfl) (fun w7 g7 => ?_)
          repeat (first | refine AL2.autoU (hn := ?_) | refine AL2.auto (hn := ?_) | refine AL2.gskip rfl rfl rfl rfl rfl ?_ | refine AL2.goneSkip rfl rfl rfl rfl rfl rfl ?_ | refine AL2.gskipU rfl rfl rfl rfl rfl ?_ | refine AL2.goneSkipU rfl rfl rfl rfl rfl rfl ?_ | refine AL2.gautoU (hn := ?_) | refine AL2.gauto (hn := ?_) | refine AL2.oauto (hn := ?_))
          first | refine AL2.one rfl rfl rfl ?_ | refine AL2.gone rfl rfl rfl rfl rfl rfl ?_
          refine OpW.call ((clone73 _ _ _ _ (k26.grow g7) (by omega)).mono ?_) rfl
          rintro v w9 ⟨A9, c9, rfl, o9, g9⟩
          refine ⟨fun h => h.grow g9, ?_⟩
          repeat (first | refine AL2.autoU (hn := ?_) | refine AL2.auto (hn := ?_) | refine AL2.gskip rfl rfl rfl rfl rfl ?_ | refine AL2.goneSkip rfl rfl rfl rfl rfl rfl ?_ | refine AL2.gskipU rfl rfl rfl rfl rfl ?_ | refine AL2.goneSkipU rfl rfl rfl rfl rfl rfl ?_ | refine AL2.gautoU (hn := ?_) | refine AL2.gauto (hn := ?_) | refine AL2.oauto (hn := ?_))
          first | refine AL2.one rfl rfl rfl ?_ | refine AL2.gone rfl rfl rfl rfl rfl rfl ?_
          refine OpW.build (cells := #[.string (bstr nm), .slice A9 bs.length c9, .int .i64 bs.length]) rfl rfl ⟨id, ?_⟩
          first | refine AL2.one rfl rfl rfl ?_ | refine AL2.gone rfl rfl rfl rfl rfl rfl ?_
          refine OpW.box (v := .agg #[.string (bstr nm), .slice A9 bs.length c9, .int .i64 bs.length]) rfl ?_
          intro fb w10 n10
          refine ⟨fun h => h.grow n10.grow, ?_⟩
          first | refine AL2.one rfl rfl rfl ?_ | refine AL2.gone rfl rfl rfl rfl rfl rfl ?_
          refine OpW.buildLit [.pointer (some ⟨fb, 0, none⟩)] rfl rfl rfl (by intro v hv; simp only [List.mem_cons, List.not_mem_nil, or_false] at hv; subst hv; rfl) ?_
          intro b11 w11 n11
          refine ⟨fun h => h.grow n11.grow, ?_⟩
          have g611 : Grow w6 w11 := g7.then (g9.then (n10.grow.then n11.grow))
          first | refine AL2.one rfl rfl rfl ?_ | refine AL2.gone rfl rfl rfl rfl rfl rfl ?_
          refine OpW.append (ys := [.pointer (some ⟨fb, 0, none⟩)]) rfl rfl rfl (hd6.own.grow g611) (blk_sl_lit n11) rfl (by intro v hv; simp only [List.mem_cons, List.not_mem_nil, or_false] at hv; subst hv; rfl) ⟨by show (acc.length + 1) * 8 ≤ _; omega, by show acc.length + 1 ≤ _; omega⟩ (fun FA' fcap' w12 o12 c12 _ => ?_)
          refine ⟨fun h => h.andThen c12, ?_⟩
          repeat (first | refine AL2.autoU (hn := ?_) | refine AL2.auto (hn := ?_) | refine AL2.gskip rfl rfl rfl rfl rfl ?_ | refine AL2.goneSkip rfl rfl rfl rfl rfl rfl ?_ | refine AL2.gskipU rfl rfl rfl rfl rfl ?_ | refine AL2.goneSkipU rfl rfl rfl rfl rfl rfl ?_ | refine AL2.gautoU (hn := ?_) | refine AL2.gauto (hn := ?_) | refine AL2.oauto (hn := ?_))
          refine AL2.last0 rfl rfl ?_
          have hb12 := (hb6.grow g611).keep c12 hne1
          refine OpW.store (v := .slice _ _ _) rfl rfl rfl hb12 rfl (c' := #[_, _, _]) rfl ?_
          intro w13 hp13 hb13
          refine ⟨fun h => (h.mono fun k _ hk => Or.inr hk).andThen (hp13.chg.mono fun k _ hk => Or.inl hk), ?_⟩
          repeat (first | refine AL.nil ?_ | refine AL.auto (hn := ?_) | refine AL.gskip rfl rfl rfl rfl rfl ?_ | refine AL.goneSkip rfl rfl rfl rfl rfl ?_ | refine AL.gauto (hn := ?_) | refine AL.oauto (hn := ?_))
          repeat (first | refine WL.nil ?_ | refine WL.auto (h := ?_) | refine WL.gskip rfl rfl rfl rfl ?_ | refine WL.gauto (h := ?_) | (refine CW.seq ?_; intro K hK) | refine CW.block ?_ | refine CW.region ?_ | refine CW.skip ?_ | refine CW.exit ?_ | refine CW.ret ?_ | (refine thn_ret (K := K) ?_; clear hK K) | refine thn_ret ?_ | refine blk_ret ?_ | (refine thn_exit (K := K) ?_; clear hK K) | refine thn_exit ?_ | refine blk_here ?_ | refine blk_past rfl ?_ | refine thn_norm ?_ | refine blk_norm ?_ | refine CW.condT rfl ?_ | refine CW.condF rfl ?_ | (refine hK _ _ ?_; clear hK K))
          have z6 : w6.heap.size ≤ w7.heap.size := g7.size
          have z7 : w7.heap.size ≤ w9.heap.size := g9.size
          have z9 : w9.heap.size ≤ fb := n10.fresh
          have fb10 : fb < w10.heap.size := n10.blk.lt
          have z10 : w10.heap.size ≤ w11.heap.size := n11.grow.size
          have z11 : w11.heap.size ≤ w12.heap.size := c12.size
          have z26 : w2.heap.size ≤ w6.heap.size := g26.size
          have z2 : w.heap.size ≤ w2.heap.size := g2.size
          have C613 : Chg (fun k => k = db ∨ ∃ a, FA = some a ∧ a.block = k) w6 w13 := (Grow.chg g611 (c12.mono fun k _ hk => Or.inr hk)).andThen (hp13.chg.mono fun k _ hk => Or.inl hk)
          have hfbk : Blk w13 fb #[.string (bstr nm), .slice A9 bs.length c9, .int .i64 bs.length] 109 := ((n10.blk.grow n11.grow).keep c12 (by
            rintro ⟨a, ha, e⟩
            have := (hd6.own.in_ ha).2
            omega)).keep hp13.chg (by intro e; omega)
          have o9' := ((o9.grow (n10.grow.then n11.grow)).keep c12 (by
            rintro k hk ⟨a, ha, rfl⟩
            have h7 := (hd6.own.in_ ha).2
            have h8 : w7.heap.size ≤ a.block := hk
            omega)).keep hp13.chg (by
            intro k hk e
            have h8 : w7.heap.size ≤ k := hk
            omega)
          have lt9 : ∀ a, A9 = some a → w7.heap.size ≤ a.block ∧ a.block < w9.heap.size := fun a ha => ⟨(o9.in_ ha).1, (o9.in_ ha).2⟩
          have o12' := o12.keep hp13.chg (by
            rintro k (⟨a, ha, rfl⟩ | hk) e
            · exact hne1 ⟨a, ha, e⟩
            · omega)
          obtain ⟨tag2, ht2, hD⟩ := hd6.snoc (f := ⟨nm, bs, bs.length⟩) (fun b => decide (w10.heap.size ≤ b)) C613 hb13 (by
              have : ptrs (fs ++ [fb]) = ptrs fs ++ [.pointer (some ⟨fb, 0, none⟩)] := by simp [ptrs]
              rw [this]
              exact o12'.zone fun a ha => by
                rcases (o12'.in_ ha).1 with h7 | h7
                · exact Or.inl h7
                · exact Or.inr ⟨by omega, decide_eq_true (by omega)⟩) (by omega) (decide_eq_false (by omega)) hfbk (o9'.zone fun a ha => by
              have h7 := lt9 a ha
              exact ⟨by omega, decide_eq_false (by omega), by omega⟩)
          have gw13 : Grow w w13 := (g2.then g26).chgNew C613 (by
            rintro i hi (e | ⟨a, ha, e⟩)
            · omega
            · have := hFA a ha; omega)
          refine hJ (xs.length - (k + 1)) _ _ (by omega) ⟨k + 1, acc ++ [⟨nm, bs, bs.length⟩], tag2, FA', fcap', fs ++ [fb], by omega, rfl, ?_, by simp [hal], by omega, gw13, fun j hj => ?_, hD, hdb, fun a ha => ?_, rep4 rfl rfl rfl (congrArg (Value.int .i64) (by omega))⟩
          · rw [hgo, loadGo, if_neg (by rw [hrn, hxn]; simp [h16])]
          · rw [ht2 j (by omega)]; exact ht j hj
          · rcases (o12.in_ ha).1 with ⟨a', h7, h8⟩ | h7
            · have := hFA a' h7; omega
            · omega
      · repeat (first | refine WL.nil ?_ | refine WL.auto (h := ?_) | refine WL.gskip rfl rfl rfl rfl ?_ | refine WL.gskipU rfl rfl rfl rfl ?_ | refine WL.gauto (h := ?_) | (refine CW.seq ?_; intro K hK) | refine CW.block ?_ | refine CW.region ?_ | refine CW.skip ?_ | refine CW.exit ?_ | refine CW.ret ?_ | (refine thn_ret (K := K) ?_; clear hK K) | refine thn_ret ?_ | refine blk_ret ?_ | (refine thn_exit (K := K) ?_; clear hK K) | refine thn_exit ?_ | refine blk_here ?_ | refine blk_past rfl ?_ | refine thn_norm ?_ | refine blk_norm ?_ | refine CW.condT rfl ?_ | refine CW.condF rfl ?_ | (refine hK _ _ ?_; clear hK K))
        refine out2 (v1 := .pointer none) (v2 := .int .i64 50) Try.results35 rfl rfl ⟨g2.then (g25.then g6), ?_⟩ (Or.inr rfl)
        rw [hgo, loadGo, if_pos (Or.inr (Or.inl (by rw [hxs]; rfl)))]
        exact rfl
  · obtain rfl : k = xs.length := by omega
    rw [List.drop_length] at hgo
    repeat (first | refine WL.nil ?_ | refine WL.auto (h := ?_) | refine WL.gskip rfl rfl rfl rfl ?_ | refine WL.gauto (h := ?_) | (refine CW.seq ?_; intro K hK) | refine CW.block ?_ | refine CW.region ?_ | refine CW.skip ?_ | refine CW.exit ?_ | refine CW.ret ?_ | (refine thn_ret (K := K) ?_; clear hK K) | refine thn_ret ?_ | refine blk_ret ?_ | (refine thn_exit (K := K) ?_; clear hK K) | refine thn_exit ?_ | refine blk_here ?_ | refine blk_past rfl ?_ | refine thn_norm ?_ | refine blk_norm ?_ | refine CW.condT rfl ?_ | refine CW.condF rfl ?_ | (refine hK _ _ ?_; clear hK K))
    refine out2 (v1 := .pointer (some ⟨db, 0, none⟩)) (v2 := .int .i64 0) Try.results35 rfl rfl ⟨g2, ?_⟩ (Or.inr rfl)
    rw [hgo]
    exact ⟨db, tag', rfl, ht, FA, fcap, fs, hd⟩
end B
end Go.Proofs.Ytlofcomnhecgfaa
/- A disk that a call makes for itself; fixed of layer 6. Sizes are bounded. -/
namespace Go.Proofs.Ytlofcomnhecgfaa
namespace B
attribute [local irreducible] OpW WL CW Ret Sl Blk thn blk outOf
set_option linter.unusedVariables false
set_option linter.unusedSimpArgs false
set_option maxRecDepth 4000

/-- A disk made since w0. -/
def HD (w0 w : World) (db : Nat) (d : PD) : Prop := ∃ tag, (∀ k, k < w0.heap.size → (tag k).impl = false) ∧ DiskRep tag w db d ∧ Grow w0 w
section
variable {w0 wd w w' : World} {db : Nat} {d : PD}
theorem HD.grow (h : HD w0 w db d) (g : Grow w w') : HD w0 w' db d := by
  obtain ⟨tag, h1, ⟨FA, fcap, fs, h2⟩, h3⟩ := h
  exact ⟨tag, h1, ⟨FA, fcap, fs, h2.grow g⟩, h3.then g⟩
theorem HD.g (h : HD w0 w db d) : Grow w0 w := by obtain ⟨tag, h1, h2, h3⟩ := h; exact h3
theorem Went.hd {tag : Nat → Tag} {d' : PD} (h0 : ∀ k, k < w0.heap.size → (tag k).impl = false) (g : Grow w0 w) (h : Went tag w w' db d') : HD w0 w' db d' := by
  obtain ⟨tag', h1, h2, h3⟩ := h
  have hs := g.size
  refine ⟨tag', fun k hk => by rw [h1 k (by omega)]; exact h0 k hk, h2, g.chgNew h3 fun i hi hc => ?_⟩
  rw [h0 i hi] at hc; cases hc
theorem newHD (w : World) : Ret Try.prog 30 #[] w fun v w' => ∃ db, v = .pointer (some ⟨db, 0, none⟩) ∧ HD w w' db ⟨[], false, 0⟩ := by
  refine (new30 w).mono ?_
  rintro v w1 ⟨db, rfl, n1⟩
  refine ⟨db, rfl, fun k => if k < w.heap.size then .other else .disk, fun k hk => by simp only [hk, if_true]; rfl, ⟨none, 0, [], ?_⟩, n1.grow⟩
  exact ⟨by show (if _ then _ else _) = _; rw [if_neg (by have := n1.fresh; omega)], n1.blk, Own.nil _ _ _ _, rfl, fun i f fb h => by simp at h⟩
theorem appendHD (h : HD w0 wd db d) (g : Grow wd w) (s b : List UInt8) (B : Option Addr) (bcap : Nat) (ha : d.armed ≤ 9223372036854775807) (hn : d.files.length ≤ 16) (hs : s.length ≤ 1099511627776)
    (hb : Sl w B (bvs b)) (hB : b ≠ [] → ∀ a, B = some a → a.block < w0.heap.size ∨ wd.heap.size ≤ a.block) (hbl : b.length ≤ 1099511627776) (hd : ∀ f ∈ d.files, f.data.length ≤ 1099511627776) :
    Ret Try.prog 33 #[.pointer (some ⟨db, 0, none⟩), .string (bstr s), .slice B b.length bcap] w fun v w' => v = .int .i64 (d.append s b).1 ∧ HD w0 w' db (d.append s b).2 := by
  obtain ⟨tag, h1, ⟨FA, fcap, fs, h2⟩, h3⟩ := h
  have hR := (h2.retag (tag' := fun k => if k < wd.heap.size then tag k else .other) fun k hk => if_pos hk).grow g
  have hs3 := h3.size
  have h0 : ∀ k, k < w0.heap.size → ((fun k => if k < wd.heap.size then tag k else Tag.other) k).impl = false := fun k hk => by
    simp only [show k < wd.heap.size from by omega, if_true]; exact h1 k hk
  refine (append33 _ db d s b B bcap w ⟨FA, fcap, fs, hR⟩ ha hn hs hb (fun hne a ha => ?_) hbl hd).mono ?_
  · rcases hB hne a ha with h | h
    · exact h0 _ h
    · simp only [show ¬ a.block < wd.heap.size from by omega, if_false]; rfl
  · rintro v w1 ⟨hv, hw⟩
    exact ⟨hv, hw.hd h0 (h3.then g)⟩
theorem syncHD (h : HD w0 w db d) (s : List UInt8) (ha : d.armed ≤ 9223372036854775807) (hn : d.files.length ≤ 16) :
    Ret Try.prog 41 #[.pointer (some ⟨db, 0, none⟩), .string (bstr s)] w fun v w' => v = .int .i64 (d.sync s).1 ∧ HD w0 w' db (d.sync s).2 := by
  obtain ⟨tag, h1, ⟨FA, fcap, fs, h2⟩, h3⟩ := h
  refine (sync41 tag db FA fcap fs d s w h2 ha hn).mono ?_
  rintro v w1 ⟨hv, h4, h5⟩
  exact ⟨hv, Went.hd h1 h3 ⟨tag, fun _ _ => rfl, ⟨FA, fcap, fs, h4⟩, h5⟩⟩
theorem truncateHD (h : HD w0 w db d) (s : List UInt8) (n : Int) (ha : d.armed ≤ 9223372036854775807) (hn : d.files.length ≤ 16) :
    Ret Try.prog 56 #[.pointer (some ⟨db, 0, none⟩), .string (bstr s), .int .i64 n] w fun v w' => v = .int .i64 (d.truncate s n).1 ∧ HD w0 w' db (d.truncate s n).2 := by
  obtain ⟨tag, h1, ⟨FA, fcap, fs, h2⟩, h3⟩ := h
  refine (truncate56 tag db FA fcap fs d s n w h2 ha hn).mono ?_
  rintro v w1 ⟨hv, h4, h5⟩
  exact ⟨hv, Went.hd h1 h3 ⟨tag, fun _ _ => rfl, ⟨FA, fcap, fs, h4⟩, h5⟩⟩
theorem armHD (h : HD w0 w db d) (n : Int) :
    Ret Try.prog 32 #[.pointer (some ⟨db, 0, none⟩), .int .i64 n] w fun v w' => HD w0 w' db (d.arm n) := by
  obtain ⟨tag, h1, ⟨FA, fcap, fs, h2⟩, h3⟩ := h
  refine (arm32 tag db FA fcap fs d n w h2).mono ?_
  rintro v w1 ⟨h4, h5⟩
  exact Went.hd h1 h3 ⟨tag, fun _ _ => rfl, ⟨FA, fcap, fs, h4⟩, h2.toImpl h5⟩
theorem downHD (h : HD w0 w db d) : Ret Try.prog 34 #[.pointer (some ⟨db, 0, none⟩)] w fun v w' => v = .bool d.off ∧ Grow w w' := by
  obtain ⟨tag, h1, ⟨FA, fcap, fs, h2⟩, h3⟩ := h
  exact down34 tag db FA fcap fs d w h2
theorem readHD (h : HD w0 w db d) (s : List UInt8) (hn : d.files.length ≤ 16) (hd : ∀ f ∈ d.files, f.data.length ≤ 1099511627776) :
    Ret Try.prog 42 #[.pointer (some ⟨db, 0, none⟩), .string (bstr s)] w fun v w' => Grow w w' ∧ ∃ A cap, v = .tuple #[.slice A (d.read s).1.length cap, .int .i64 (d.read s).2] ∧ Own w' A 5 1 (d.read s).1.length cap (bvs (d.read s).1) (fresh w) := by
  obtain ⟨tag, h1, ⟨FA, fcap, fs, h2⟩, h3⟩ := h
  exact read42 tag db FA fcap fs d s w h2 hn hd
theorem waitingHD (h : HD w0 w db d) (hn : d.files.length ≤ 16) (hd : ∀ f ∈ d.files, f.data.length ≤ 1099511627776 ∧ f.safe ≤ f.data.length) :
    Ret Try.prog 40 #[.pointer (some ⟨db, 0, none⟩)] w fun v w' => Grow w w' ∧ v = .int .i64 (waitOf d.files) := by
  obtain ⟨tag, h1, ⟨FA, fcap, fs, h2⟩, h3⟩ := h
  exact waiting40 tag db FA fcap fs d w h2 hn hd
theorem crashHD (h : HD w0 w db d) (KA0 : Option Addr) (kcap0 : Nat) (ks : List Bool) (hn : d.files.length ≤ 16) (hd : ∀ f ∈ d.files, f.data.length ≤ 1099511627776 ∧ f.safe ≤ f.data.length)
    (hk : Sl w KA0 (ks.map .bool)) (hkl : ks.length ≤ 1099511627776) (hkc : ks.length ≤ kcap0) :
    Ret Try.prog 38 #[.pointer (some ⟨db, 0, none⟩), .slice KA0 ks.length kcap0] w fun v w' => Grow w w' ∧ ∃ (OA : Option Addr) (cap : Nat) (col : Nat → Bool), v = .slice OA (crashAll d.files ks).1.length cap ∧ FilesOut w' OA cap (crashAll d.files ks).1 (fun b => w.heap.size ≤ b ∧ col b = true) (fun b => w.heap.size ≤ b ∧ col b = false) := by
  obtain ⟨tag, h1, ⟨FA, fcap, fs, h2⟩, h3⟩ := h
  exact crash38 tag db FA fcap fs d KA0 kcap0 ks w h2 hn hd hk hkl hkc
end

/-- One file of an answer: its name, its bytes. -/
theorem FilesOut.at_ {w : World} {OA : Option Addr} {cap : Nat} {xs : List (List UInt8 × List UInt8)} {ZA ZD : Nat → Prop} (h : FilesOut w OA cap xs ZA ZD) {i : Nat} {x : List UInt8 × List UInt8} (hx : xs[i]? = some x) :
    ∃ cells DA, Sl w OA cells ∧ OA ≠ none ∧ (∀ a, OA = some a → a.spot = none) ∧ cells[i * 2]? = some (.string (bstr x.1)) ∧ cells[i * 2 + 1]? = some (.slice DA x.2.length x.2.length) ∧ Own w DA 5 1 x.2.length x.2.length (bvs x.2) ZD := by
  obtain ⟨cells, g1, g2⟩ := h
  obtain ⟨DA, g3, g4⟩ := g2 i x hx
  have e0 : ((cells.drop (i * 2)).take 2)[0]? = some (.string (bstr x.1)) := by rw [g3]; rfl
  have e1 : ((cells.drop (i * 2)).take 2)[1]? = some (.slice DA x.2.length x.2.length) := by rw [g3]; rfl
  rw [List.getElem?_take, if_pos (by omega), List.getElem?_drop] at e0 e1
  have hl := (List.getElem?_eq_some_iff.1 e0).1
  exact ⟨cells, DA, g1.sl, sl_ne g1.sl hl, spot_own g1, by simpa using e0, e1, g4⟩

theorem fixed31 (w : World) : Ret Try.prog 31 #[] w fun v w' => v = .bool true ∧ Grow w w' := by
  refine Ret.enter (fn := Try.f31) (N := 54) Try.func31 rfl Try.ntmps31 rfl ?_
  repeat (first | refine WL.nil ?_ | refine WL.auto (h := ?_) | refine WL.gskip rfl rfl rfl rfl ?_ | refine WL.gauto (h := ?_) | (refine CW.seq ?_; intro K hK) | refine CW.block ?_ | refine CW.region ?_ | refine CW.skip ?_ | refine CW.exit ?_ | refine CW.ret ?_ | (refine thn_ret (K := K) ?_; clear hK K) | refine thn_ret ?_ | refine blk_ret ?_ | (refine thn_exit (K := K) ?_; clear hK K) | refine thn_exit ?_ | refine blk_here ?_ | refine blk_past rfl ?_ | refine thn_norm ?_ | refine blk_norm ?_ | refine CW.condT rfl ?_ | refine CW.condF rfl ?_ | (refine hK _ _ ?_; clear hK K))
  first | refine WL.step rfl ?_ | refine WL.gstep rfl rfl rfl rfl ?_
  refine OpW.call ((newHD w).mono ?_) rfl
  rintro v w1 ⟨db, rfl, h1⟩
  repeat (first | refine WL.nil ?_ | refine WL.auto (h := ?_) | refine WL.gskip rfl rfl rfl rfl ?_ | refine WL.gauto (h := ?_) | (refine CW.seq ?_; intro K hK) | refine CW.block ?_ | refine CW.region ?_ | refine CW.skip ?_ | refine CW.exit ?_ | refine CW.ret ?_ | (refine thn_ret (K := K) ?_; clear hK K) | refine thn_ret ?_ | refine blk_ret ?_ | (refine thn_exit (K := K) ?_; clear hK K) | refine thn_exit ?_ | refine blk_here ?_ | refine blk_past rfl ?_ | refine thn_norm ?_ | refine blk_norm ?_ | refine CW.condT rfl ?_ | refine CW.condF rfl ?_ | (refine hK _ _ ?_; clear hK K))
  first | refine WL.step rfl ?_ | refine WL.gstep rfl rfl rfl rfl ?_
  refine OpW.buildLit [bv 1, bv 2] rfl rfl rfl (lit1 _ rfl) ?_
  intro b2 w2 n2
  repeat (first | refine WL.nil ?_ | refine WL.auto (h := ?_) | refine WL.gskip rfl rfl rfl rfl ?_ | refine WL.gauto (h := ?_) | (refine CW.seq ?_; intro K hK) | refine CW.block ?_ | refine CW.region ?_ | refine CW.skip ?_ | refine CW.exit ?_ | refine CW.ret ?_ | (refine thn_ret (K := K) ?_; clear hK K) | refine thn_ret ?_ | refine blk_ret ?_ | (refine thn_exit (K := K) ?_; clear hK K) | refine thn_exit ?_ | refine blk_here ?_ | refine blk_past rfl ?_ | refine thn_norm ?_ | refine blk_norm ?_ | refine CW.condT rfl ?_ | refine CW.condF rfl ?_ | (refine hK _ _ ?_; clear hK K))
  first | refine WL.step rfl ?_ | refine WL.gstep rfl rfl rfl rfl ?_
  refine OpW.call ((appendHD h1 n2.grow [97] [1, 2] _ _ (by decide) (by decide) (by decide) (blk_sl_lit n2) (fun _ a ha => by cases ha; exact Or.inr n2.fresh) (by decide) (by simp)).mono ?_) rfl
  rintro v w3 ⟨rfl, h3⟩
  rw [show (PD.append ⟨[], false, 0⟩ [97] [1, 2]) = (0, ⟨[⟨[97], [1, 2], 0⟩], false, 0⟩) from rfl] at h3 ⊢
  repeat (first | refine WL.nil ?_ | refine WL.auto (h := ?_) | refine WL.gskip rfl rfl rfl rfl ?_ | refine WL.gauto (h := ?_) | (refine CW.seq ?_; intro K hK) | refine CW.block ?_ | refine CW.region ?_ | refine CW.skip ?_ | refine CW.exit ?_ | refine CW.ret ?_ | (refine thn_ret (K := K) ?_; clear hK K) | refine thn_ret ?_ | refine blk_ret ?_ | (refine thn_exit (K := K) ?_; clear hK K) | refine thn_exit ?_ | refine blk_here ?_ | refine blk_past rfl ?_ | refine thn_norm ?_ | refine blk_norm ?_ | refine CW.condT rfl ?_ | refine CW.condF rfl ?_ | (refine hK _ _ ?_; clear hK K))
  first | refine WL.step rfl ?_ | refine WL.gstep rfl rfl rfl rfl ?_
  refine OpW.call ((syncHD h3 [97] (by decide) (by decide)).mono ?_) rfl
  rintro v w4 ⟨rfl, h4⟩
  rw [show (PD.sync ⟨[⟨[97], [1, 2], 0⟩], false, 0⟩ [97]) = (0, ⟨[⟨[97], [1, 2], 2⟩], false, 0⟩) from rfl] at h4 ⊢
  repeat (first | refine WL.nil ?_ | refine WL.auto (h := ?_) | refine WL.gskip rfl rfl rfl rfl ?_ | refine WL.gauto (h := ?_) | (refine CW.seq ?_; intro K hK) | refine CW.block ?_ | refine CW.region ?_ | refine CW.skip ?_ | refine CW.exit ?_ | refine CW.ret ?_ | (refine thn_ret (K := K) ?_; clear hK K) | refine thn_ret ?_ | refine blk_ret ?_ | (refine thn_exit (K := K) ?_; clear hK K) | refine thn_exit ?_ | refine blk_here ?_ | refine blk_past rfl ?_ | refine thn_norm ?_ | refine blk_norm ?_ | refine CW.condT rfl ?_ | refine CW.condF rfl ?_ | (refine hK _ _ ?_; clear hK K))
  first | refine WL.step rfl ?_ | refine WL.gstep rfl rfl rfl rfl ?_
  refine OpW.buildLit [bv 3, bv 4, bv 5] rfl rfl rfl (lit1 _ rfl) ?_
  intro b5 w5 n5
  repeat (first | refine WL.nil ?_ | refine WL.auto (h := ?_) | refine WL.gskip rfl rfl rfl rfl ?_ | refine WL.gauto (h := ?_) | (refine CW.seq ?_; intro K hK) | refine CW.block ?_ | refine CW.region ?_ | refine CW.skip ?_ | refine CW.exit ?_ | refine CW.ret ?_ | (refine thn_ret (K := K) ?_; clear hK K) | refine thn_ret ?_ | refine blk_ret ?_ | (refine thn_exit (K := K) ?_; clear hK K) | refine thn_exit ?_ | refine blk_here ?_ | refine blk_past rfl ?_ | refine thn_norm ?_ | refine blk_norm ?_ | refine CW.condT rfl ?_ | refine CW.condF rfl ?_ | (refine hK _ _ ?_; clear hK K))
  first | refine WL.step rfl ?_ | refine WL.gstep rfl rfl rfl rfl ?_
  refine OpW.call ((appendHD h4 n5.grow [97] [3, 4, 5] _ _ (by decide) (by decide) (by decide) (blk_sl_lit n5) (fun _ a ha => by cases ha; exact Or.inr n5.fresh) (by decide) (by simp)).mono ?_) rfl
  rintro v w6 ⟨rfl, h6⟩
  rw [show (PD.append ⟨[⟨[97], [1, 2], 2⟩], false, 0⟩ [97] [3, 4, 5]) = (0, ⟨[⟨[97], [1, 2, 3, 4, 5], 2⟩], false, 0⟩) from rfl] at h6 ⊢
  repeat (first | refine WL.nil ?_ | refine WL.auto (h := ?_) | refine WL.gskip rfl rfl rfl rfl ?_ | refine WL.gauto (h := ?_) | (refine CW.seq ?_; intro K hK) | refine CW.block ?_ | refine CW.region ?_ | refine CW.skip ?_ | refine CW.exit ?_ | refine CW.ret ?_ | (refine thn_ret (K := K) ?_; clear hK K) | refine thn_ret ?_ | refine blk_ret ?_ | (refine thn_exit (K := K) ?_; clear hK K) | refine thn_exit ?_ | refine blk_here ?_ | refine blk_past rfl ?_ | refine thn_norm ?_ | refine blk_norm ?_ | refine CW.condT rfl ?_ | refine CW.condF rfl ?_ | (refine hK _ _ ?_; clear hK K))
  first | refine WL.step rfl ?_ | refine WL.gstep rfl rfl rfl rfl ?_
  refine OpW.buildLit [.bool false, .bool true] rfl rfl rfl (lit1 _ rfl) ?_
  intro b7 w7 n7
  have h7 := h6.grow n7.grow
  repeat (first | refine WL.nil ?_ | refine WL.auto (h := ?_) | refine WL.gskip rfl rfl rfl rfl ?_ | refine WL.gauto (h := ?_) | (refine CW.seq ?_; intro K hK) | refine CW.block ?_ | refine CW.region ?_ | refine CW.skip ?_ | refine CW.exit ?_ | refine CW.ret ?_ | (refine thn_ret (K := K) ?_; clear hK K) | refine thn_ret ?_ | refine blk_ret ?_ | (refine thn_exit (K := K) ?_; clear hK K) | refine thn_exit ?_ | refine blk_here ?_ | refine blk_past rfl ?_ | refine thn_norm ?_ | refine blk_norm ?_ | refine CW.condT rfl ?_ | refine CW.condF rfl ?_ | (refine hK _ _ ?_; clear hK K))
  first | refine WL.step rfl ?_ | refine WL.gstep rfl rfl rfl rfl ?_
  refine OpW.call ((crashHD h7 _ _ [false, true] (by decide) (by simp) (blk_sl_lit n7) (by decide) (by decide)).mono ?_) rfl
  rintro v w8 ⟨g8, OA, cap, col, rfl, o8⟩
  rw [show (crashAll [⟨[97], [1, 2, 3, 4, 5], 2⟩] [false, true]).1 = [([97], [1, 2, 0, 4])] from rfl] at o8 ⊢
  have h8 := h7.grow g8
  repeat (first | refine WL.nil ?_ | refine WL.auto (h := ?_) | refine WL.gskip rfl rfl rfl rfl ?_ | refine WL.gauto (h := ?_) | (refine CW.seq ?_; intro K hK) | refine CW.block ?_ | refine CW.region ?_ | refine CW.skip ?_ | refine CW.exit ?_ | refine CW.ret ?_ | (refine thn_ret (K := K) ?_; clear hK K) | refine thn_ret ?_ | refine blk_ret ?_ | (refine thn_exit (K := K) ?_; clear hK K) | refine thn_exit ?_ | refine blk_here ?_ | refine blk_past rfl ?_ | refine thn_norm ?_ | refine blk_norm ?_ | refine CW.condT rfl ?_ | refine CW.condF rfl ?_ | (refine hK _ _ ?_; clear hK K))
  first | refine WL.step rfl ?_ | refine WL.gstep rfl rfl rfl rfl ?_
  refine OpW.call ((waitingHD h8 (by decide) (by simp)).mono ?_) rfl
  rintro v w9 ⟨g9, rfl⟩
  rw [show waitOf [⟨[97], [1, 2, 3, 4, 5], 2⟩] = 3 from rfl]
  obtain ⟨cells, DA, q1, q2, q3, q4, q5, q6⟩ := o8.at_ (i := 0) (x := ([97], [1, 2, 0, 4])) rfl
  replace q1 := q1.grow g9
  replace q6 := q6.grow g9
  have h9 := h8.grow g9
  repeat (first | refine WL.nil ?_ | refine WL.auto (h := ?_) | refine WL.gskip rfl rfl rfl rfl ?_ | refine WL.gauto (h := ?_) | (refine CW.seq ?_; intro K hK) | refine CW.block ?_ | refine CW.region ?_ | refine CW.skip ?_ | refine CW.exit ?_ | refine CW.ret ?_ | (refine thn_ret (K := K) ?_; clear hK K) | refine thn_ret ?_ | refine blk_ret ?_ | (refine thn_exit (K := K) ?_; clear hK K) | refine thn_exit ?_ | refine blk_here ?_ | refine blk_past rfl ?_ | refine thn_norm ?_ | refine blk_norm ?_ | refine CW.condT rfl ?_ | refine CW.condF rfl ?_ | (refine hK _ _ ?_; clear hK K))
  first | refine WL.step rfl ?_ | refine WL.gstep rfl rfl rfl rfl ?_
  refine OpW.indexAddr 0 rfl rfl rfl (by decide) q2 q3 ?_
  repeat (first | refine WL.nil ?_ | refine WL.auto (h := ?_) | refine WL.gskip rfl rfl rfl rfl ?_ | refine WL.gauto (h := ?_) | (refine CW.seq ?_; intro K hK) | refine CW.block ?_ | refine CW.region ?_ | refine CW.skip ?_ | refine CW.exit ?_ | refine CW.ret ?_ | (refine thn_ret (K := K) ?_; clear hK K) | refine thn_ret ?_ | refine blk_ret ?_ | (refine thn_exit (K := K) ?_; clear hK K) | refine thn_exit ?_ | refine blk_here ?_ | refine blk_past rfl ?_ | refine thn_norm ?_ | refine blk_norm ?_ | refine CW.condT rfl ?_ | refine CW.condF rfl ?_ | (refine hK _ _ ?_; clear hK K))
  first | refine WL.step rfl ?_ | refine WL.gstep rfl rfl rfl rfl ?_
  refine OpW.indexAddr 0 rfl rfl rfl (by decide) q2 q3 ?_
  repeat (first | refine WL.nil ?_ | refine WL.auto (h := ?_) | refine WL.gskip rfl rfl rfl rfl ?_ | refine WL.gauto (h := ?_) | (refine CW.seq ?_; intro K hK) | refine CW.block ?_ | refine CW.region ?_ | refine CW.skip ?_ | refine CW.exit ?_ | refine CW.ret ?_ | (refine thn_ret (K := K) ?_; clear hK K) | refine thn_ret ?_ | refine blk_ret ?_ | (refine thn_exit (K := K) ?_; clear hK K) | refine thn_exit ?_ | refine blk_here ?_ | refine blk_past rfl ?_ | refine thn_norm ?_ | refine blk_norm ?_ | refine CW.condT rfl ?_ | refine CW.condF rfl ?_ | (refine hK _ _ ?_; clear hK K))
  first | refine WL.step rfl ?_ | refine WL.gstep rfl rfl rfl rfl ?_
  refine OpW.toStr rfl q6.sl rfl ?_
  repeat (first | refine WL.nil ?_ | refine WL.auto (h := ?_) | refine WL.gskip rfl rfl rfl rfl ?_ | refine WL.gauto (h := ?_) | (refine CW.seq ?_; intro K hK) | refine CW.block ?_ | refine CW.region ?_ | refine CW.skip ?_ | refine CW.exit ?_ | refine CW.ret ?_ | (refine thn_ret (K := K) ?_; clear hK K) | refine thn_ret ?_ | refine blk_ret ?_ | (refine thn_exit (K := K) ?_; clear hK K) | refine thn_exit ?_ | refine blk_here ?_ | refine blk_past rfl ?_ | refine thn_norm ?_ | refine blk_norm ?_ | refine CW.condT rfl ?_ | refine CW.condF rfl ?_ | (refine hK _ _ ?_; clear hK K))
  first | refine WL.step rfl ?_ | refine WL.gstep rfl rfl rfl rfl ?_
  refine OpW.call ((syncHD h9 [98] (by decide) (by decide)).mono ?_) rfl
  rintro v w10 ⟨rfl, h10⟩
  rw [show (PD.sync ⟨[⟨[97], [1, 2, 3, 4, 5], 2⟩], false, 0⟩ [98]) = (50, ⟨[⟨[97], [1, 2, 3, 4, 5], 2⟩], false, 0⟩) from rfl] at h10 ⊢
  repeat (first | refine WL.nil ?_ | refine WL.auto (h := ?_) | refine WL.gskip rfl rfl rfl rfl ?_ | refine WL.gauto (h := ?_) | (refine CW.seq ?_; intro K hK) | refine CW.block ?_ | refine CW.region ?_ | refine CW.skip ?_ | refine CW.exit ?_ | refine CW.ret ?_ | (refine thn_ret (K := K) ?_; clear hK K) | refine thn_ret ?_ | refine blk_ret ?_ | (refine thn_exit (K := K) ?_; clear hK K) | refine thn_exit ?_ | refine blk_here ?_ | refine blk_past rfl ?_ | refine thn_norm ?_ | refine blk_norm ?_ | refine CW.condT rfl ?_ | refine CW.condF rfl ?_ | (refine hK _ _ ?_; clear hK K))
  exact out1 (v := .bool true) Try.results31 rfl ⟨rfl, h10.g⟩ (Or.inr rfl)
end B
end Go.Proofs.Ytlofcomnhecgfaa
