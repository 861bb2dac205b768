/- A disk of isthmus/disk as it lies in memory; New, begin, right, find. Sizes are bounded. -/
import Derived.Test.YtlofcomnhecgfaaCodec
import Derived.Test.YtlofcomnhecgfaaWireB
namespace Go.Proofs.Ytlofcomnhecgfaa
namespace B
attribute [local irreducible] OpW WL CW Ret Sl Blk thn blk outOf
set_option linter.unusedVariables false
set_option linter.unusedSimpArgs false
set_option maxRecDepth 4000

structure PF where
  name : List UInt8
  data : List UInt8
  safe : Nat
structure PD where
  files : List PF
  off : Bool
  armed : Nat
/-- Whose a block is. -/
inductive Tag where
  | disk | arr | file (i : Nat) | data (i : Nat) | rdisk | rarr | rdata (i : Nat) | other
def Tag.impl : Tag → Bool
  | .disk | .arr | .file _ | .data _ => true
  | _ => false
def Tag.ref : Tag → Bool
  | .rdisk | .rarr | .rdata _ => true
  | _ => false
def ptrs (l : List Nat) : List Value := l.map fun b => .pointer (some ⟨b, 0, none⟩)
theorem ptrs_length (l : List Nat) : (ptrs l).length = l.length := by simp [ptrs]
def FileRep (w : World) (fb : Nat) (f : PF) (Z : Nat → Prop) : Prop :=
  ∃ DA cap, Blk w fb #[.string (bstr f.name), .slice DA f.data.length cap, .int .i64 (f.safe : Int)] 109 ∧ Own w DA 5 1 f.data.length cap (bvs f.data) Z
structure DiskAt (tag : Nat → Tag) (w : World) (db : Nat) (FA : Option Addr) (fcap : Nat) (fs : List Nat) (d : PD) : Prop where
  tg : tag db = .disk
  blk : Blk w db #[.slice FA d.files.length fcap, .bool d.off, .int .i64 (d.armed : Int)] 102
  own : Own w FA 105 1 d.files.length fcap (ptrs fs) (fun b => tag b = .arr)
  len : fs.length = d.files.length
  file : ∀ i f fb, d.files[i]? = some f → fs[i]? = some fb → tag fb = .file i ∧ FileRep w fb f (fun b => tag b = .data i)
def DiskRep (tag : Nat → Tag) (w : World) (db : Nat) (d : PD) : Prop := ∃ FA fcap fs, DiskAt tag w db FA fcap fs d

theorem FileRep.keep {S : Nat → Prop} {w w' : World} {fb : Nat} {f : PF} {Z : Nat → Prop} (h : FileRep w fb f Z) (hc : Chg S w w') (h1 : ¬ S fb) (h2 : ∀ b, Z b → ¬ S b) : FileRep w' fb f Z := by
  obtain ⟨DA, cap, g1, g2⟩ := h
  exact ⟨DA, cap, g1.keep hc h1, g2.keep hc h2⟩
theorem DiskAt.keep {S : Nat → Prop} {tag : Nat → Tag} {w w' : World} {db : Nat} {FA : Option Addr} {fcap : Nat} {fs : List Nat} {d : PD} (h : DiskAt tag w db FA fcap fs d) (hc : Chg S w w') (hS : ∀ b, (tag b).impl = true → ¬ S b) : DiskAt tag w' db FA fcap fs d :=
  ⟨h.tg, h.blk.keep hc (hS db (by rw [h.tg]; rfl)), h.own.keep hc fun b hb => hS b (by rw [hb]; rfl), h.len, fun i f fb h1 h2 => by
    obtain ⟨h3, h4⟩ := h.file i f fb h1 h2
    exact ⟨h3, h4.keep hc (hS fb (by rw [h3]; rfl)) fun b hb => hS b (by rw [hb]; rfl)⟩⟩
theorem DiskAt.grow {tag : Nat → Tag} {w w' : World} {db : Nat} {FA : Option Addr} {fcap : Nat} {fs : List Nat} {d : PD} (h : DiskAt tag w db FA fcap fs d) (hc : Grow w w') : DiskAt tag w' db FA fcap fs d := h.keep hc fun _ _ hf => hf
theorem DiskRep.keep {S : Nat → Prop} {tag : Nat → Tag} {w w' : World} {db : Nat} {d : PD} (h : DiskRep tag w db d) (hc : Chg S w w') (hS : ∀ b, (tag b).impl = true → ¬ S b) : DiskRep tag w' db d := by
  obtain ⟨FA, fcap, fs, h⟩ := h
  exact ⟨FA, fcap, fs, h.keep hc hS⟩

def rightName (s : List UInt8) : Bool := decide (s ≠ []) && decide (s.length ≤ 32)
theorem right72 (s : List UInt8) (w : World) (hl : s.length ≤ 70368744177664) : Ret Try.prog 72 #[.string (bstr s)] w fun v w' => v = .bool (rightName s) ∧ Grow w w' := by
  refine Ret.enter (fn := Try.f72) (N := 10) Try.func72 rfl Try.ntmps72 rfl ?_
  repeat (first | refine WL.nil ?_ | refine WL.auto (h := ?_) | refine WL.gskip rfl rfl rfl rfl ?_ | refine WL.gauto (h := ?_) | (refine CW.seq ?_; intro K hK) | refine CW.block ?_ | refine CW.region ?_ | refine CW.skip ?_ | refine CW.exit ?_ | refine CW.ret ?_ | (refine thn_ret (K := K) ?_; clear hK K) | refine thn_ret ?_ | refine blk_ret ?_ | (refine thn_exit (K := K) ?_; clear hK K) | refine thn_exit ?_ | refine blk_here ?_ | refine blk_past rfl ?_ | refine thn_norm ?_ | refine blk_norm ?_ | refine CW.condT rfl ?_ | refine CW.condF rfl ?_ | (refine hK _ _ ?_; clear hK K))
  by_cases h1 : s = []
  · subst h1
    repeat (first | refine WL.nil ?_ | refine WL.auto (h := ?_) | refine WL.gskip rfl rfl rfl rfl ?_ | refine WL.gskipU rfl rfl rfl rfl ?_ | refine WL.gauto (h := ?_) | (refine CW.seq ?_; intro K hK) | refine CW.block ?_ | refine CW.region ?_ | refine CW.skip ?_ | refine CW.exit ?_ | refine CW.ret ?_ | (refine thn_ret (K := K) ?_; clear hK K) | refine thn_ret ?_ | refine blk_ret ?_ | (refine thn_exit (K := K) ?_; clear hK K) | refine thn_exit ?_ | refine blk_here ?_ | refine blk_past rfl ?_ | refine thn_norm ?_ | refine blk_norm ?_ | refine CW.condT rfl ?_ | refine CW.condF rfl ?_ | (refine hK _ _ ?_; clear hK K))
    exact out1 (v := .bool false) Try.results72 rfl ⟨by simp [rightName], Chg.refl _ _⟩ (Or.inr rfl)
  · rw [decide_eq_true (p := ¬ s = []) h1]
    repeat (first | refine WL.nil ?_ | refine WL.auto (h := ?_) | refine WL.gskip rfl rfl rfl rfl ?_ | refine WL.gskipU rfl rfl rfl rfl ?_ | refine WL.gauto (h := ?_) | (refine CW.seq ?_; intro K hK) | refine CW.block ?_ | refine CW.region ?_ | refine CW.skip ?_ | refine CW.exit ?_ | refine CW.ret ?_ | (refine thn_ret (K := K) ?_; clear hK K) | refine thn_ret ?_ | refine blk_ret ?_ | (refine thn_exit (K := K) ?_; clear hK K) | refine thn_exit ?_ | refine blk_here ?_ | refine blk_past rfl ?_ | refine thn_norm ?_ | refine blk_norm ?_ | refine CW.condT rfl ?_ | refine CW.condF rfl ?_ | (refine hK _ _ ?_; clear hK K))
    refine out1 (v := .bool (decide ((s.length : Int) ≤ 32))) Try.results72 rfl ⟨congrArg Value.bool ?_, Chg.refl _ _⟩ (Or.inr rfl)
    unfold rightName
    rw [Bool.eq_iff_iff]
    simp only [h1, ne_eq, not_false_eq_true, decide_true, Bool.true_and, decide_eq_true_eq]
    omega

/-- The first file of that name. -/
def PD.ix (d : PD) (s : List UInt8) : Option Nat := d.files.findIdx? fun f => decide (f.name = s)
theorem find71 (tag : Nat → Tag) (db : Nat) (FA : Option Addr) (fcap : Nat) (fs : List Nat) (d : PD) (s : List UInt8) (w : World) (h : DiskAt tag w db FA fcap fs d) (hn : d.files.length ≤ 1048576) :
    Ret Try.prog 71 #[.pointer (some ⟨db, 0, none⟩), .string (bstr s)] w fun v w' => Grow w w' ∧ ((d.ix s = none ∧ v = .pointer none) ∨ ∃ i f fb, d.ix s = some i ∧ d.files[i]? = some f ∧ fs[i]? = some fb ∧ f.name = s ∧ v = .pointer (some ⟨fb, 0, none⟩)) := by
  have hb := h.blk
  refine Ret.enter (fn := Try.f71) (N := 24) Try.func71 rfl Try.ntmps71 rfl ?_
  repeat (first | refine WL.nil ?_ | refine WL.auto (h := ?_) | refine WL.gskip rfl rfl rfl rfl ?_ | refine WL.gauto (h := ?_) | (refine CW.seq ?_; intro K hK) | refine CW.block ?_ | refine CW.region ?_ | refine CW.skip ?_ | refine CW.exit ?_ | refine CW.ret ?_ | (refine thn_ret (K := K) ?_; clear hK K) | refine thn_ret ?_ | refine blk_ret ?_ | (refine thn_exit (K := K) ?_; clear hK K) | refine thn_exit ?_ | refine blk_here ?_ | refine blk_past rfl ?_ | refine thn_norm ?_ | refine blk_norm ?_ | refine CW.condT rfl ?_ | refine CW.condF rfl ?_ | (refine hK _ _ ?_; clear hK K))
  refine CW.loop (fun n' e w2 => ∃ k, k ≤ d.files.length ∧ n' = d.files.length - k ∧ (∀ i f, i < k → d.files[i]? = some f → f.name ≠ s) ∧ Grow w w2 ∧ ∃ e0, e = upd (upd (upd (upd e0 1 (.string (bstr s))) 10 (.slice FA d.files.length fcap)) 11 (.int .i64 d.files.length)) 12 (.int .i64 k)) d.files.length ?_ ?_
  · exact ⟨0, by omega, rfl, fun i f hi => by omega, Chg.refl _ _, rep4 rfl rfl rfl rfl⟩
  rintro n' e w2 ⟨k, hk, rfl, hno, g2, e0, rfl⟩ KJ hJ
  repeat (first | refine WL.nil ?_ | refine WL.auto (h := ?_) | refine WL.gskip rfl rfl rfl rfl ?_ | refine WL.gauto (h := ?_) | (refine CW.seq ?_; intro K hK) | refine CW.block ?_ | refine CW.region ?_ | refine CW.skip ?_ | refine CW.exit ?_ | refine CW.ret ?_ | (refine thn_ret (K := K) ?_; clear hK K) | refine thn_ret ?_ | refine blk_ret ?_ | (refine thn_exit (K := K) ?_; clear hK K) | refine thn_exit ?_ | refine blk_here ?_ | refine blk_past rfl ?_ | refine thn_norm ?_ | refine blk_norm ?_ | refine CW.condT rfl ?_ | refine CW.condF rfl ?_ | (refine hK _ _ ?_; clear hK K))
  refine CW.condP rfl (fun h2 => ?_) (fun h2 => ?_)
  · have hkl : k < d.files.length := by omega
    have hkf : k < fs.length := by rw [h.len]; exact hkl
    have hkb : k < (ptrs fs).length := by rw [ptrs_length]; exact hkf
    have hsl := (h.own.grow g2).sl
    obtain ⟨h3, DA, dcap, h4, h5⟩ := (h.grow g2).file k d.files[k] fs[k] (List.getElem?_eq_getElem hkl) (List.getElem?_eq_getElem hkf)
    have hat : (ptrs fs)[k]? = some (.pointer (some ⟨fs[k], 0, none⟩)) := by simp [ptrs, hkf]
    repeat (first | refine WL.nil ?_ | refine WL.auto (h := ?_) | refine WL.gskip rfl rfl rfl rfl ?_ | refine WL.gauto (h := ?_) | (refine CW.seq ?_; intro K hK) | refine CW.block ?_ | refine CW.region ?_ | refine CW.skip ?_ | refine CW.exit ?_ | refine CW.ret ?_ | (refine thn_ret (K := K) ?_; clear hK K) | refine thn_ret ?_ | refine blk_ret ?_ | (refine thn_exit (K := K) ?_; clear hK K) | refine thn_exit ?_ | refine blk_here ?_ | refine blk_past rfl ?_ | refine thn_norm ?_ | refine blk_norm ?_ | refine CW.condT rfl ?_ | refine CW.condF rfl ?_ | (refine hK _ _ ?_; clear hK K))
    first | refine WL.step rfl ?_ | refine WL.gstep rfl rfl rfl rfl ?_
    refine OpW.indexAddr k rfl rfl rfl hkl (sl_ne hsl hkb) (sl_sp hsl hkb) ?_
    repeat (first | refine WL.nil ?_ | refine WL.auto (h := ?_) | refine WL.gskip rfl rfl rfl rfl ?_ | refine WL.gauto (h := ?_) | (refine CW.seq ?_; intro K hK) | refine CW.block ?_ | refine CW.region ?_ | refine CW.skip ?_ | refine CW.exit ?_ | refine CW.ret ?_ | (refine thn_ret (K := K) ?_; clear hK K) | refine thn_ret ?_ | refine blk_ret ?_ | (refine thn_exit (K := K) ?_; clear hK K) | refine thn_exit ?_ | refine blk_here ?_ | refine blk_past rfl ?_ | refine thn_norm ?_ | refine blk_norm ?_ | refine CW.condT rfl ?_ | refine CW.condF rfl ?_ | (refine hK _ _ ?_; clear hK K))
    first | refine WL.step rfl ?_ | refine WL.gstep rfl rfl rfl rfl ?_
    refine OpW.loadS (v := .pointer (some ⟨fs[k], 0, none⟩)) rfl hsl (by simpa using hat) ?_
    repeat (first | refine WL.nil ?_ | refine WL.auto (h := ?_) | refine WL.gskip rfl rfl rfl rfl ?_ | refine WL.gauto (h := ?_) | (refine CW.seq ?_; intro K hK) | refine CW.block ?_ | refine CW.region ?_ | refine CW.skip ?_ | refine CW.exit ?_ | refine CW.ret ?_ | (refine thn_ret (K := K) ?_; clear hK K) | refine thn_ret ?_ | refine blk_ret ?_ | (refine thn_exit (K := K) ?_; clear hK K) | refine thn_exit ?_ | refine blk_here ?_ | refine blk_past rfl ?_ | refine thn_norm ?_ | refine blk_norm ?_ | refine CW.condT rfl ?_ | refine CW.condF rfl ?_ | (refine hK _ _ ?_; clear hK K))
    refine CW.condP rfl (fun h6 => ?_) (fun h6 => ?_)
    · repeat (first | refine WL.nil ?_ | refine WL.auto (h := ?_) | refine WL.gskip rfl rfl rfl rfl ?_ | refine WL.gauto (h := ?_) | (refine CW.seq ?_; intro K hK) | refine CW.block ?_ | refine CW.region ?_ | refine CW.skip ?_ | refine CW.exit ?_ | refine CW.ret ?_ | (refine thn_ret (K := K) ?_; clear hK K) | refine thn_ret ?_ | refine blk_ret ?_ | (refine thn_exit (K := K) ?_; clear hK K) | refine thn_exit ?_ | refine blk_here ?_ | refine blk_past rfl ?_ | refine thn_norm ?_ | refine blk_norm ?_ | refine CW.condT rfl ?_ | refine CW.condF rfl ?_ | (refine hK _ _ ?_; clear hK K))
      refine out1 (v := .pointer (some ⟨fs[k], 0, none⟩)) Try.results71 rfl ⟨g2, Or.inr ⟨k, d.files[k], fs[k], ?_, List.getElem?_eq_getElem hkl, List.getElem?_eq_getElem hkf, h6, rfl⟩⟩ (Or.inr rfl)
      unfold PD.ix
      rw [List.findIdx?_eq_some_iff_getElem]
      exact ⟨hkl, by simpa using h6, fun j hj => by simpa using hno j d.files[j] hj (List.getElem?_eq_getElem (by omega))⟩
    · repeat (first | refine WL.nil ?_ | refine WL.auto (h := ?_) | refine WL.gskip rfl rfl rfl rfl ?_ | refine WL.gauto (h := ?_) | (refine CW.seq ?_; intro K hK) | refine CW.block ?_ | refine CW.region ?_ | refine CW.skip ?_ | refine CW.exit ?_ | refine CW.ret ?_ | (refine thn_ret (K := K) ?_; clear hK K) | refine thn_ret ?_ | refine blk_ret ?_ | (refine thn_exit (K := K) ?_; clear hK K) | refine thn_exit ?_ | refine blk_here ?_ | refine blk_past rfl ?_ | refine thn_norm ?_ | refine blk_norm ?_ | refine CW.condT rfl ?_ | refine CW.condF rfl ?_ | (refine hK _ _ ?_; clear hK K))
      refine hJ (d.files.length - (k + 1)) _ _ (by omega) ⟨k + 1, by omega, rfl, fun i f hi hf => ?_, g2, rep4 rfl rfl rfl (congrArg (Value.int .i64) (by omega))⟩
      rcases Nat.lt_or_ge i k with hi' | hi'
      · exact hno i f hi' hf
      · obtain rfl : i = k := by omega
        rw [List.getElem?_eq_getElem hkl] at hf
        cases hf
        exact h6
  · obtain rfl : k = d.files.length := by omega
    repeat (first | refine WL.nil ?_ | refine WL.auto (h := ?_) | refine WL.gskip rfl rfl rfl rfl ?_ | refine WL.gauto (h := ?_) | (refine CW.seq ?_; intro K hK) | refine CW.block ?_ | refine CW.region ?_ | refine CW.skip ?_ | refine CW.exit ?_ | refine CW.ret ?_ | (refine thn_ret (K := K) ?_; clear hK K) | refine thn_ret ?_ | refine blk_ret ?_ | (refine thn_exit (K := K) ?_; clear hK K) | refine thn_exit ?_ | refine blk_here ?_ | refine blk_past rfl ?_ | refine thn_norm ?_ | refine blk_norm ?_ | refine CW.condT rfl ?_ | refine CW.condF rfl ?_ | (refine hK _ _ ?_; clear hK K))
    refine out1 (v := .pointer none) Try.results71 rfl ⟨g2, Or.inl ⟨?_, rfl⟩⟩ (Or.inr rfl)
    unfold PD.ix
    rw [List.findIdx?_eq_none_iff]
    intro f hf
    obtain ⟨i, hi⟩ := List.getElem?_of_mem hf
    simpa using hno i f (List.getElem?_eq_some_iff.1 hi).1 hi

theorem new30 (w : World) : Ret Try.prog 30 #[] w fun v w' => ∃ db, v = .pointer (some ⟨db, 0, none⟩) ∧ New w w' db (.cells #[.slice none 0 0, .bool false, .int .i64 0] 102) := by
  refine Ret.enter (fn := Try.f30) (N := 3) Try.func30 rfl Try.ntmps30 rfl ?_
  repeat (first | refine WL.nil ?_ | refine WL.auto (h := ?_) | refine WL.gskip rfl rfl rfl rfl ?_ | refine WL.gauto (h := ?_) | (refine CW.seq ?_; intro K hK) | refine CW.block ?_ | refine CW.region ?_ | refine CW.skip ?_ | refine CW.exit ?_ | refine CW.ret ?_ | (refine thn_ret (K := K) ?_; clear hK K) | refine thn_ret ?_ | refine blk_ret ?_ | (refine thn_exit (K := K) ?_; clear hK K) | refine thn_exit ?_ | refine blk_here ?_ | refine blk_past rfl ?_ | refine thn_norm ?_ | refine blk_norm ?_ | refine CW.condT rfl ?_ | refine CW.condF rfl ?_ | (refine hK _ _ ?_; clear hK K))
  first | refine WL.step rfl ?_ | refine WL.gstep rfl rfl rfl rfl ?_
  refine OpW.build (cells := #[.slice none 0 0, .bool false, .int .i64 0]) rfl rfl ?_
  repeat (first | refine WL.nil ?_ | refine WL.auto (h := ?_) | refine WL.gskip rfl rfl rfl rfl ?_ | refine WL.gauto (h := ?_) | (refine CW.seq ?_; intro K hK) | refine CW.block ?_ | refine CW.region ?_ | refine CW.skip ?_ | refine CW.exit ?_ | refine CW.ret ?_ | (refine thn_ret (K := K) ?_; clear hK K) | refine thn_ret ?_ | refine blk_ret ?_ | (refine thn_exit (K := K) ?_; clear hK K) | refine thn_exit ?_ | refine blk_here ?_ | refine blk_past rfl ?_ | refine thn_norm ?_ | refine blk_norm ?_ | refine CW.condT rfl ?_ | refine CW.condF rfl ?_ | (refine hK _ _ ?_; clear hK K))
  first | refine WL.step rfl ?_ | refine WL.gstep rfl rfl rfl rfl ?_
  refine OpW.box (v := .agg #[.slice none 0 0, .bool false, .int .i64 0]) rfl ?_
  intro b w2 hn
  repeat (first | refine WL.nil ?_ | refine WL.auto (h := ?_) | refine WL.gskip rfl rfl rfl rfl ?_ | refine WL.gauto (h := ?_) | (refine CW.seq ?_; intro K hK) | refine CW.block ?_ | refine CW.region ?_ | refine CW.skip ?_ | refine CW.exit ?_ | refine CW.ret ?_ | (refine thn_ret (K := K) ?_; clear hK K) | refine thn_ret ?_ | refine blk_ret ?_ | (refine thn_exit (K := K) ?_; clear hK K) | refine thn_exit ?_ | refine blk_here ?_ | refine blk_past rfl ?_ | refine thn_norm ?_ | refine blk_norm ?_ | refine CW.condT rfl ?_ | refine CW.condF rfl ?_ | (refine hK _ _ ?_; clear hK K))
  exact out1 (v := .pointer (some ⟨b, 0, none⟩)) Try.results30 rfl ⟨b, rfl, hn⟩ (Or.inr rfl)
end B
end Go.Proofs.Ytlofcomnhecgfaa
