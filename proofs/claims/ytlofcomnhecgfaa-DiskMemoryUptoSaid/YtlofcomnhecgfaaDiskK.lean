/- The document's disk as it lies in memory; its New, right, find, goes, Arm, Waiting. Sizes are bounded. -/
import Derived.Test.YtlofcomnhecgfaaDiskJ
import Derived.Test.YtlofcomnhecgfaaMem7
namespace Go.Proofs.Ytlofcomnhecgfaa
namespace B
attribute [local irreducible] OpW WL CW Ret Sl Blk thn blk outOf
set_option linter.unusedVariables false
set_option linter.unusedSimpArgs false
set_option maxRecDepth 4000

def RFile (w : World) (cells : List Value) (i : Nat) (f : PF) (Z : Nat → Prop) : Prop :=
  ∃ DA cap, (cells.drop (i * 3)).take 3 = [.string (bstr f.name), .slice DA f.data.length cap, .int .i64 (f.safe : Int)] ∧ Own w DA 5 1 f.data.length cap (bvs f.data) Z
structure RefAt (tag : Nat → Tag) (w : World) (mb : Nat) (RA : Option Addr) (rcap : Nat) (cells : List Value) (d : PD) : Prop where
  tg : tag mb = .rdisk
  blk : Blk w mb #[.slice RA d.files.length rcap, .bool d.off, .int .i64 (d.armed : Int)] 79
  own : Own w RA 113 3 d.files.length rcap cells (fun b => tag b = .rarr)
  file : ∀ i f, d.files[i]? = some f → RFile w cells i f (fun b => tag b = .rdata i)
def RefRep (tag : Nat → Tag) (w : World) (mb : Nat) (d : PD) : Prop := ∃ RA rcap cells, RefAt tag w mb RA rcap cells d
section
variable {S : Nat → Prop} {tag tag' : Nat → Tag} {w w' : World} {mb : Nat} {RA : Option Addr} {rcap : Nat} {cells : List Value} {d : PD} {f : PF} {i : Nat} {Z Z' : Nat → Prop}
theorem RFile.keep (h : RFile w cells i f Z) (hc : Chg S w w') (h2 : ∀ b, Z b → ¬ S b) : RFile w' cells i f Z := by
  obtain ⟨DA, cap, g1, g2⟩ := h
  exact ⟨DA, cap, g1, g2.keep hc h2⟩
theorem RFile.mono (h : RFile w cells i f Z) (hz : ∀ b, b < w.heap.size → Z b → Z' b) : RFile w cells i f Z' := by
  obtain ⟨DA, cap, g1, g2⟩ := h
  exact ⟨DA, cap, g1, g2.zone fun a ha => hz _ (g2.in_ ha).2 (g2.in_ ha).1⟩
theorem RefAt.keep (h : RefAt tag w mb RA rcap cells d) (hc : Chg S w w') (hS : ∀ b, (tag b).ref = true → ¬ S b) : RefAt tag w' mb RA rcap cells d :=
  ⟨h.tg, h.blk.keep hc (hS mb (by rw [h.tg]; rfl)), h.own.keep hc fun b hb => hS b (by rw [hb]; rfl), fun i f h1 => (h.file i f h1).keep hc fun b hb => hS b (by rw [hb]; rfl)⟩
theorem RefAt.grow (h : RefAt tag w mb RA rcap cells d) (hc : Grow w w') : RefAt tag w' mb RA rcap cells d := h.keep hc fun _ _ hf => hf
theorem RefAt.retag (h : RefAt tag w mb RA rcap cells d) (ht : ∀ k, k < w.heap.size → tag' k = tag k) : RefAt tag' w mb RA rcap cells d :=
  ⟨by rw [ht _ h.blk.lt]; exact h.tg, h.blk, h.own.zone fun a ha => by
    show tag' a.block = .rarr
    rw [ht _ (h.own.in_ ha).2]; exact (h.own.in_ ha).1, fun i f h1 => (h.file i f h1).mono fun b hb hz => by rw [ht _ hb]; exact hz⟩
theorem RefAt.turn (h : RefAt tag w mb RA rcap cells d) (hc : Chg (· = mb) w w') {off : Bool} {armed : Nat}
    (hb : Blk w' mb #[.slice RA d.files.length rcap, .bool off, .int .i64 (armed : Int)] 79) : RefAt tag w' mb RA rcap cells { d with off := off, armed := armed } := by
  have h0 := h.tg
  refine ⟨h.tg, hb, h.own.keep hc fun b ht e => ?_, fun i f h1 => (h.file i f h1).keep hc fun b ht e => ?_⟩
  · subst e; rw [h0] at ht; cases ht
  · subst e; rw [h0] at ht; cases ht
theorem RefAt.toRef (h : RefAt tag w mb RA rcap cells d) {a c : World} (hc : Chg (· = mb) a c) : Chg (fun b => (tag b).ref = true) a c :=
  hc.mono fun k _ e => by subst e; rw [h.tg]; rfl
/-- The cells of one file. -/
theorem RefAt.at_ (h : RefAt tag w mb RA rcap cells d) (hi : d.files[i]? = some f) :
    ∃ DA cap, cells[i * 3 + 0]? = some (.string (bstr f.name)) ∧ cells[i * 3 + 1]? = some (.slice DA f.data.length cap) ∧ cells[i * 3 + 2]? = some (.int .i64 (f.safe : Int)) ∧ Own w DA 5 1 f.data.length cap (bvs f.data) (fun b => tag b = .rdata i) ∧ RA ≠ none ∧ (∀ a, RA = some a → a.spot = none) ∧ (cells.drop (i * 3)).take 3 = [.string (bstr f.name), .slice DA f.data.length cap, .int .i64 (f.safe : Int)] := by
  obtain ⟨DA, cap, h1, h2⟩ := h.file i f hi
  have e0 : cells[i * 3 + 0]? = some (.string (bstr f.name)) := part_get (c := 0) h1 rfl
  exact ⟨DA, cap, e0, part_get (c := 1) h1 rfl, part_get (c := 2) h1 rfl, h2, sl_ne h.own.sl (List.getElem?_eq_some_iff.1 e0).1, spot_own h.own, h1⟩
/-- One cell of one file's turned, or its bytes. -/
theorem RefAt.setFile {f' : PF} {c : Nat} {v : Value} {DA : Option Addr} {cap : Nat} (h : RefAt tag w mb RA rcap cells d) (hi : d.files[i]? = some f) (hc : Chg S w w') (hS : ∀ b, S b → (∃ a, RA = some a ∧ a.block = b) ∨ tag b = .rdata i ∨ (tag b).ref = false) (hcc : c < 3)
    (ho : Own w' RA 113 3 d.files.length rcap (cells.set (i * 3 + c) v) (fun b => tag b = .rarr)) (hp : ((cells.drop (i * 3)).take 3).set c v = [.string (bstr f'.name), .slice DA f'.data.length cap, .int .i64 (f'.safe : Int)])
    (hd : Own w' DA 5 1 f'.data.length cap (bvs f'.data) (fun b => tag b = .rdata i)) : RefAt tag w' mb RA rcap (cells.set (i * 3 + c) v) { d with files := d.files.set i f' } := by
  have hn : ∀ b t, tag b = t → t ≠ .rarr → t ≠ .rdata i → t.ref = true → ¬ S b := fun b t e h1 h2 h3 hs => by
    subst e
    rcases hS b hs with ⟨a, ha, e⟩ | h | h
    · rw [← e] at h1; exact h1 (h.own.in_ ha).1
    · exact h2 h
    · rw [h] at h3; cases h3
  refine ⟨h.tg, ?_, ?_, fun j g h1 => ?_⟩
  · have := h.blk.keep hc (hn mb _ h.tg (by simp) (by simp) rfl)
    simpa using this
  · simpa using ho
  · by_cases hj : j = i
    · subst hj
      rw [List.getElem?_set_self (List.getElem?_eq_some_iff.1 hi).1] at h1
      cases h1
      exact ⟨DA, cap, by rw [part_set_self, hp], hd⟩
    · rw [List.getElem?_set_ne (fun e => hj e.symm)] at h1
      obtain ⟨DB, capB, g1, g2⟩ := h.file j g h1
      exact ⟨DB, capB, by rw [part_set_ne hj hcc, g1], g2.keep hc fun b hb => hn b _ hb (by simp) (by simp [hj]) rfl⟩
/-- What has happened to the document's disk. -/
def WentR (tag : Nat → Tag) (w w' : World) (mb : Nat) (d' : PD) : Prop :=
  ∃ tag', (∀ k, k < w.heap.size → tag' k = tag k) ∧ RefRep tag' w' mb d' ∧ Chg (fun b => (tag b).ref = true) w w'
/-- A file more: its cells, its bytes and, it may be, the row of files in new blocks. -/
theorem RefAt.snoc {RA' DA : Option Addr} {rcap' cap : Nat} {g : PF} (inA : Nat → Bool) (h : RefAt tag w mb RA rcap cells d)
    (C : Chg (fun k => k = mb ∨ ∃ a, RA = some a ∧ a.block = k) w w')
    (hb : Blk w' mb #[.slice RA' (d.files.length + 1) rcap', .bool d.off, .int .i64 (d.armed : Int)] 79)
    (ho : Own w' RA' 113 3 (d.files.length + 1) rcap' (cells ++ [.string (bstr g.name), .slice DA g.data.length cap, .int .i64 (g.safe : Int)]) (fun b => (∃ a, RA = some a ∧ a.block = b) ∨ (w.heap.size ≤ b ∧ inA b = true)))
    (hd : Own w' DA 5 1 g.data.length cap (bvs g.data) (fun b => w.heap.size ≤ b ∧ inA b = false)) :
    ∃ tag', (∀ k, k < w.heap.size → tag' k = tag k) ∧ RefAt tag' w' mb RA' rcap' (cells ++ [.string (bstr g.name), .slice DA g.data.length cap, .int .i64 (g.safe : Int)]) { d with files := d.files ++ [g] } := by
  refine ⟨fun k => if k < w.heap.size then tag k else if inA k = true then .rarr else .rdata d.files.length, fun k hk => if_pos hk, ?_⟩
  have hR := h.retag (tag' := fun k => if k < w.heap.size then tag k else if inA k = true then .rarr else .rdata d.files.length) fun k hk => if_pos hk
  have hcl : cells.length = d.files.length * 3 := h.own.1
  refine ⟨hR.tg, ?_, ?_, fun i x q1 => ?_⟩
  · simpa using hb
  · have o6z := ho.zone (Z' := fun k => (if k < w.heap.size then tag k else if inA k = true then Tag.rarr else .rdata d.files.length) = .rarr) fun a ha => by
      rcases (ho.in_ ha).1 with ⟨a', h1', h2'⟩ | h1'
      · have q := h.own.in_ h1'
        rw [h2'] at q
        show (if _ then _ else _) = _
        rw [if_pos q.2]; exact q.1
      · show (if _ then _ else _) = _
        rw [if_neg (by omega), if_pos h1'.2]
    simpa using o6z
  · rcases Nat.lt_or_ge i d.files.length with hi | hi
    · rw [List.getElem?_append_left hi] at q1
      obtain ⟨DB, capB, g1, g2⟩ := hR.file i x q1
      refine ⟨DB, capB, ?_, g2.keep C fun k hk => ?_⟩
      · rw [List.drop_append_of_le_length (by omega), List.take_append_of_le_length (by simp; omega)]
        exact g1
      · rintro (e | ⟨a, ha, e⟩)
        · rw [e, hR.tg] at hk; cases hk
        · have q := (hR.own.in_ ha).1
          rw [e, hk] at q; cases q
    · have hin : i = d.files.length := by
        have := (List.getElem?_eq_some_iff.1 q1).1
        simp at this; omega
      subst hin
      rw [List.getElem?_append_right (Nat.le_refl _), Nat.sub_self] at q1
      simp only [List.getElem?_cons_zero, Option.some.injEq] at q1
      subst q1
      refine ⟨DA, cap, ?_, hd.zone fun a ha => ?_⟩
      · rw [← hcl, List.drop_left]; rfl
      · have q := (hd.in_ ha).1
        show (if _ then _ else _) = _
        rw [if_neg (by omega), if_neg (by simp [q.2])]
end

theorem new59 (w : World) : Ret Try.prog 59 #[] w fun v w' => ∃ db, v = .pointer (some ⟨db, 0, none⟩) ∧ New w w' db (.cells #[.slice none 0 0, .bool false, .int .i64 0] 79) := by
  refine Ret.enter (fn := Try.f59) (N := 3) Try.func59 rfl Try.ntmps59 rfl ?_
  repeat (first | refine WL.nil ?_ | refine WL.auto (h := ?_) | refine WL.gskip rfl rfl rfl rfl ?_ | refine WL.gauto (h := ?_) | (refine CW.seq ?_; intro K hK) | refine CW.block ?_ | refine CW.region ?_ | refine CW.skip ?_ | refine CW.exit ?_ | refine CW.ret ?_ | (refine thn_ret (K := K) ?_; clear hK K) | refine thn_ret ?_ | refine blk_ret ?_ | (refine thn_exit (K := K) ?_; clear hK K) | refine thn_exit ?_ | refine blk_here ?_ | refine blk_past rfl ?_ | refine thn_norm ?_ | refine blk_norm ?_ | refine CW.condT rfl ?_ | refine CW.condF rfl ?_ | (refine hK _ _ ?_; clear hK K))
  first | refine WL.step rfl ?_ | refine WL.gstep rfl rfl rfl rfl ?_
  refine OpW.build (cells := #[.slice none 0 0, .bool false, .int .i64 0]) rfl rfl ?_
  repeat (first | refine WL.nil ?_ | refine WL.auto (h := ?_) | refine WL.gskip rfl rfl rfl rfl ?_ | refine WL.gauto (h := ?_) | (refine CW.seq ?_; intro K hK) | refine CW.block ?_ | refine CW.region ?_ | refine CW.skip ?_ | refine CW.exit ?_ | refine CW.ret ?_ | (refine thn_ret (K := K) ?_; clear hK K) | refine thn_ret ?_ | refine blk_ret ?_ | (refine thn_exit (K := K) ?_; clear hK K) | refine thn_exit ?_ | refine blk_here ?_ | refine blk_past rfl ?_ | refine thn_norm ?_ | refine blk_norm ?_ | refine CW.condT rfl ?_ | refine CW.condF rfl ?_ | (refine hK _ _ ?_; clear hK K))
  first | refine WL.step rfl ?_ | refine WL.gstep rfl rfl rfl rfl ?_
  refine OpW.box (v := .agg #[.slice none 0 0, .bool false, .int .i64 0]) rfl ?_
  intro b w2 hn
  repeat (first | refine WL.nil ?_ | refine WL.auto (h := ?_) | refine WL.gskip rfl rfl rfl rfl ?_ | refine WL.gauto (h := ?_) | (refine CW.seq ?_; intro K hK) | refine CW.block ?_ | refine CW.region ?_ | refine CW.skip ?_ | refine CW.exit ?_ | refine CW.ret ?_ | (refine thn_ret (K := K) ?_; clear hK K) | refine thn_ret ?_ | refine blk_ret ?_ | (refine thn_exit (K := K) ?_; clear hK K) | refine thn_exit ?_ | refine blk_here ?_ | refine blk_past rfl ?_ | refine thn_norm ?_ | refine blk_norm ?_ | refine CW.condT rfl ?_ | refine CW.condF rfl ?_ | (refine hK _ _ ?_; clear hK K))
  exact out1 (v := .pointer (some ⟨b, 0, none⟩)) Try.results59 rfl ⟨b, rfl, hn⟩ (Or.inr rfl)
theorem right74 (s : List UInt8) (w : World) (hl : s.length ≤ 70368744177664) : Ret Try.prog 74 #[.string (bstr s)] w fun v w' => v = .bool (rightName s) ∧ Grow w w' := by
  refine Ret.enter (fn := Try.f74) (N := 11) Try.func74 rfl Try.ntmps74 rfl ?_
  by_cases h1 : s = []
  · subst h1
    repeat (first | refine WL.nil ?_ | refine WL.auto (h := ?_) | refine WL.gskip rfl rfl rfl rfl ?_ | refine WL.gskipU rfl rfl rfl rfl ?_ | refine WL.gauto (h := ?_) | (refine CW.seq ?_; intro K hK) | refine CW.block ?_ | refine CW.region ?_ | refine CW.skip ?_ | refine CW.exit ?_ | refine CW.ret ?_ | (refine thn_ret (K := K) ?_; clear hK K) | refine thn_ret ?_ | refine blk_ret ?_ | (refine thn_exit (K := K) ?_; clear hK K) | refine thn_exit ?_ | refine blk_here ?_ | refine blk_past rfl ?_ | refine thn_norm ?_ | refine blk_norm ?_ | refine CW.condT rfl ?_ | refine CW.condF rfl ?_ | (refine hK _ _ ?_; clear hK K))
    exact out1 (v := .bool false) Try.results74 rfl ⟨by simp [rightName], Chg.refl _ _⟩ (Or.inr rfl)
  · have h2 : 1 ≤ s.length := by cases s <;> simp_all
    repeat (first | refine WL.nil ?_ | refine WL.auto (h := ?_) | refine WL.gskip rfl rfl rfl rfl ?_ | refine WL.gauto (h := ?_) | (refine CW.seq ?_; intro K hK) | refine CW.block ?_ | refine CW.region ?_ | refine CW.skip ?_ | refine CW.exit ?_ | refine CW.ret ?_ | (refine thn_ret (K := K) ?_; clear hK K) | refine thn_ret ?_ | refine blk_ret ?_ | (refine thn_exit (K := K) ?_; clear hK K) | refine thn_exit ?_ | refine blk_here ?_ | refine blk_past rfl ?_ | refine thn_norm ?_ | refine blk_norm ?_ | refine CW.condT rfl ?_ | refine CW.condF rfl ?_ | (refine hK _ _ ?_; clear hK K))
    rw [decide_eq_true (p := (1 : Int) ≤ ((bstr s).size : Int)) (by rw [bstr_size]; omega)]
    repeat (first | refine WL.nil ?_ | refine WL.auto (h := ?_) | refine WL.gskip rfl rfl rfl rfl ?_ | refine WL.gskipU rfl rfl rfl rfl ?_ | refine WL.gauto (h := ?_) | (refine CW.seq ?_; intro K hK) | refine CW.block ?_ | refine CW.region ?_ | refine CW.skip ?_ | refine CW.exit ?_ | refine CW.ret ?_ | (refine thn_ret (K := K) ?_; clear hK K) | refine thn_ret ?_ | refine blk_ret ?_ | (refine thn_exit (K := K) ?_; clear hK K) | refine thn_exit ?_ | refine blk_here ?_ | refine blk_past rfl ?_ | refine thn_norm ?_ | refine blk_norm ?_ | refine CW.condT rfl ?_ | refine CW.condF rfl ?_ | (refine hK _ _ ?_; clear hK K))
    refine out1 (v := .bool (decide ((s.length : Int) ≤ 32))) Try.results74 rfl ⟨congrArg Value.bool ?_, Chg.refl _ _⟩ (Or.inr rfl)
    unfold rightName
    rw [Bool.eq_iff_iff]
    simp only [h1, ne_eq, not_false_eq_true, decide_true, Bool.true_and, decide_eq_true_eq]
    omega
def ixInt : Option Nat → Int
  | none => -1
  | some i => (i : Int)
theorem find75 (tag : Nat → Tag) (mb : Nat) (RA : Option Addr) (rcap : Nat) (cells : List Value) (d : PD) (s : List UInt8) (w : World) (h : RefAt tag w mb RA rcap cells d) (hn : d.files.length ≤ 1048576) :
    Ret Try.prog 75 #[.pointer (some ⟨mb, 0, none⟩), .string (bstr s)] w fun v w' => Grow w w' ∧ v = .int .i64 (ixInt (d.ix s)) := by
  refine Ret.enter (fn := Try.f75) (N := 26) Try.func75 rfl Try.ntmps75 rfl ?_
  repeat (first | refine WL.nil ?_ | refine WL.auto (h := ?_) | refine WL.gskip rfl rfl rfl rfl ?_ | refine WL.gauto (h := ?_) | (refine CW.seq ?_; intro K hK) | refine CW.block ?_ | refine CW.region ?_ | refine CW.skip ?_ | refine CW.exit ?_ | refine CW.ret ?_ | (refine thn_ret (K := K) ?_; clear hK K) | refine thn_ret ?_ | refine blk_ret ?_ | (refine thn_exit (K := K) ?_; clear hK K) | refine thn_exit ?_ | refine blk_here ?_ | refine blk_past rfl ?_ | refine thn_norm ?_ | refine blk_norm ?_ | refine CW.condT rfl ?_ | refine CW.condF rfl ?_ | (refine hK _ _ ?_; clear hK K))
  refine CW.loop (fun n' e w2 => ∃ k, k ≤ d.files.length ∧ n' = d.files.length - k ∧ (∀ i f, i < k → d.files[i]? = some f → f.name ≠ s) ∧ Grow w w2 ∧ ∃ e0, e = upd (upd (upd e0 0 (.pointer (some ⟨mb, 0, none⟩))) 1 (.string (bstr s))) 5 (.int .i64 k)) d.files.length ?_ ?_
  · exact ⟨0, by omega, rfl, fun i f hi => by omega, Chg.refl _ _, rep3 rfl rfl rfl⟩
  rintro n' e w2 ⟨k, hk, rfl, hno, g2, e0, rfl⟩ KJ hJ
  have h2 := h.grow g2
  have hb := h2.blk
  repeat (first | refine WL.nil ?_ | refine WL.auto (h := ?_) | refine WL.gskip rfl rfl rfl rfl ?_ | refine WL.gauto (h := ?_) | (refine CW.seq ?_; intro K hK) | refine CW.block ?_ | refine CW.region ?_ | refine CW.skip ?_ | refine CW.exit ?_ | refine CW.ret ?_ | (refine thn_ret (K := K) ?_; clear hK K) | refine thn_ret ?_ | refine blk_ret ?_ | (refine thn_exit (K := K) ?_; clear hK K) | refine thn_exit ?_ | refine blk_here ?_ | refine blk_past rfl ?_ | refine thn_norm ?_ | refine blk_norm ?_ | refine CW.condT rfl ?_ | refine CW.condF rfl ?_ | (refine hK _ _ ?_; clear hK K))
  refine CW.condP rfl (fun h3 => ?_) (fun h3 => ?_)
  · have hkl : k < d.files.length := by omega
    obtain ⟨DA, cap, q0, q1, q2, q3, q4, q5, q6⟩ := h2.at_ (List.getElem?_eq_getElem hkl)
    have hsl := h2.own.sl
    repeat (first | refine WL.nil ?_ | refine WL.auto (h := ?_) | refine WL.gskip rfl rfl rfl rfl ?_ | refine WL.gauto (h := ?_) | (refine CW.seq ?_; intro K hK) | refine CW.block ?_ | refine CW.region ?_ | refine CW.skip ?_ | refine CW.exit ?_ | refine CW.ret ?_ | (refine thn_ret (K := K) ?_; clear hK K) | refine thn_ret ?_ | refine blk_ret ?_ | (refine thn_exit (K := K) ?_; clear hK K) | refine thn_exit ?_ | refine blk_here ?_ | refine blk_past rfl ?_ | refine thn_norm ?_ | refine blk_norm ?_ | refine CW.condT rfl ?_ | refine CW.condF rfl ?_ | (refine hK _ _ ?_; clear hK K))
    first | refine WL.step rfl ?_ | refine WL.gstep rfl rfl rfl rfl ?_
    refine OpW.indexAddr k rfl rfl rfl hkl q4 q5 ?_
    repeat (first | refine WL.nil ?_ | refine WL.auto (h := ?_) | refine WL.gskip rfl rfl rfl rfl ?_ | refine WL.gauto (h := ?_) | (refine CW.seq ?_; intro K hK) | refine CW.block ?_ | refine CW.region ?_ | refine CW.skip ?_ | refine CW.exit ?_ | refine CW.ret ?_ | (refine thn_ret (K := K) ?_; clear hK K) | refine thn_ret ?_ | refine blk_ret ?_ | (refine thn_exit (K := K) ?_; clear hK K) | refine thn_exit ?_ | refine blk_here ?_ | refine blk_past rfl ?_ | refine thn_norm ?_ | refine blk_norm ?_ | refine CW.condT rfl ?_ | refine CW.condF rfl ?_ | (refine hK _ _ ?_; clear hK K))
    refine CW.condP rfl (fun h6 => ?_) (fun h6 => ?_)
    · repeat (first | refine WL.nil ?_ | refine WL.auto (h := ?_) | refine WL.gskip rfl rfl rfl rfl ?_ | refine WL.gauto (h := ?_) | (refine CW.seq ?_; intro K hK) | refine CW.block ?_ | refine CW.region ?_ | refine CW.skip ?_ | refine CW.exit ?_ | refine CW.ret ?_ | (refine thn_ret (K := K) ?_; clear hK K) | refine thn_ret ?_ | refine blk_ret ?_ | (refine thn_exit (K := K) ?_; clear hK K) | refine thn_exit ?_ | refine blk_here ?_ | refine blk_past rfl ?_ | refine thn_norm ?_ | refine blk_norm ?_ | refine CW.condT rfl ?_ | refine CW.condF rfl ?_ | (refine hK _ _ ?_; clear hK K))
      refine out1 (v := .int .i64 k) Try.results75 rfl ⟨g2, ?_⟩ (Or.inr rfl)
      have : d.ix s = some k := by
        unfold PD.ix
        rw [List.findIdx?_eq_some_iff_getElem]
        exact ⟨hkl, by simpa using h6, fun j hj => by simpa using hno j d.files[j] hj (List.getElem?_eq_getElem (by omega))⟩
      rw [this]; rfl
    · repeat (first | refine WL.nil ?_ | refine WL.auto (h := ?_) | refine WL.gskip rfl rfl rfl rfl ?_ | refine WL.gauto (h := ?_) | (refine CW.seq ?_; intro K hK) | refine CW.block ?_ | refine CW.region ?_ | refine CW.skip ?_ | refine CW.exit ?_ | refine CW.ret ?_ | (refine thn_ret (K := K) ?_; clear hK K) | refine thn_ret ?_ | refine blk_ret ?_ | (refine thn_exit (K := K) ?_; clear hK K) | refine thn_exit ?_ | refine blk_here ?_ | refine blk_past rfl ?_ | refine thn_norm ?_ | refine blk_norm ?_ | refine CW.condT rfl ?_ | refine CW.condF rfl ?_ | (refine hK _ _ ?_; clear hK K))
      refine hJ (d.files.length - (k + 1)) _ _ (by omega) ⟨k + 1, by omega, rfl, fun i f hi hf => ?_, g2, rep3 rfl rfl (congrArg (Value.int .i64) (by omega))⟩
      rcases Nat.lt_or_ge i k with hi' | hi'
      · exact hno i f hi' hf
      · obtain rfl : i = k := by omega
        rw [List.getElem?_eq_getElem hkl] at hf
        cases hf
        exact h6
  · obtain rfl : k = d.files.length := by omega
    repeat (first | refine WL.nil ?_ | refine WL.auto (h := ?_) | refine WL.gskip rfl rfl rfl rfl ?_ | refine WL.gauto (h := ?_) | (refine CW.seq ?_; intro K hK) | refine CW.block ?_ | refine CW.region ?_ | refine CW.skip ?_ | refine CW.exit ?_ | refine CW.ret ?_ | (refine thn_ret (K := K) ?_; clear hK K) | refine thn_ret ?_ | refine blk_ret ?_ | (refine thn_exit (K := K) ?_; clear hK K) | refine thn_exit ?_ | refine blk_here ?_ | refine blk_past rfl ?_ | refine thn_norm ?_ | refine blk_norm ?_ | refine CW.condT rfl ?_ | refine CW.condF rfl ?_ | (refine hK _ _ ?_; clear hK K))
    refine out1 (v := .int .i64 (-1)) Try.results75 rfl ⟨g2, ?_⟩ (Or.inr rfl)
    have : d.ix s = none := by
      unfold PD.ix
      rw [List.findIdx?_eq_none_iff]
      intro f hf
      obtain ⟨i, hi⟩ := List.getElem?_of_mem hf
      simpa using hno i f (List.getElem?_eq_some_iff.1 hi).1 hi
    rw [this]; rfl
theorem goes102 (tag : Nat → Tag) (mb : Nat) (RA : Option Addr) (rcap : Nat) (cells : List Value) (d : PD) (w : World) (h : RefAt tag w mb RA rcap cells d) (ha : d.armed ≤ 9223372036854775807) (ho : d.off = false) :
    Ret Try.prog 102 #[.pointer (some ⟨mb, 0, none⟩)] w fun v w' => v = .bool (decide (d.begin.2.1 = 51)) ∧ d.begin.1 = true ∧ (d.begin.2.1 = 0 ∨ d.begin.2.1 = 51) ∧ RefAt tag w' mb RA rcap cells d.begin.2.2 ∧ Chg (· = mb) w w' := by
  have hb := h.blk
  refine Ret.enter (fn := Try.f102) (N := 27) Try.func102 rfl Try.ntmps102 rfl ?_
  repeat (first | refine WL.nil ?_ | refine WL.auto (h := ?_) | refine WL.gskip rfl rfl rfl rfl ?_ | refine WL.gauto (h := ?_) | (refine CW.seq ?_; intro K hK) | refine CW.block ?_ | refine CW.region ?_ | refine CW.skip ?_ | refine CW.exit ?_ | refine CW.ret ?_ | (refine thn_ret (K := K) ?_; clear hK K) | refine thn_ret ?_ | refine blk_ret ?_ | (refine thn_exit (K := K) ?_; clear hK K) | refine thn_exit ?_ | refine blk_here ?_ | refine blk_past rfl ?_ | refine thn_norm ?_ | refine blk_norm ?_ | refine CW.condT rfl ?_ | refine CW.condF rfl ?_ | (refine hK _ _ ?_; clear hK K))
  refine CW.condP rfl (fun h2 => ?_) (fun h2 => ?_)
  · have e1 : d.begin = (true, 0, d) := by unfold PD.begin; rw [if_neg (by simp [ho]), if_neg (by omega)]
    repeat (first | refine WL.nil ?_ | refine WL.auto (h := ?_) | refine WL.gskip rfl rfl rfl rfl ?_ | refine WL.gauto (h := ?_) | (refine CW.seq ?_; intro K hK) | refine CW.block ?_ | refine CW.region ?_ | refine CW.skip ?_ | refine CW.exit ?_ | refine CW.ret ?_ | (refine thn_ret (K := K) ?_; clear hK K) | refine thn_ret ?_ | refine blk_ret ?_ | (refine thn_exit (K := K) ?_; clear hK K) | refine thn_exit ?_ | refine blk_here ?_ | refine blk_past rfl ?_ | refine thn_norm ?_ | refine blk_norm ?_ | refine CW.condT rfl ?_ | refine CW.condF rfl ?_ | (refine hK _ _ ?_; clear hK K))
    refine out1 (v := .bool false) Try.results102 rfl ?_ (Or.inr rfl)
    rw [e1]
    exact ⟨rfl, rfl, Or.inl rfl, h, Chg.refl _ _⟩
  · repeat (first | refine WL.nil ?_ | refine WL.auto (h := ?_) | refine WL.gskip rfl rfl rfl rfl ?_ | refine WL.gauto (h := ?_) | (refine CW.seq ?_; intro K hK) | refine CW.block ?_ | refine CW.region ?_ | refine CW.skip ?_ | refine CW.exit ?_ | refine CW.ret ?_ | (refine thn_ret (K := K) ?_; clear hK K) | refine thn_ret ?_ | refine blk_ret ?_ | (refine thn_exit (K := K) ?_; clear hK K) | refine thn_exit ?_ | refine blk_here ?_ | refine blk_past rfl ?_ | refine thn_norm ?_ | refine blk_norm ?_ | refine CW.condT rfl ?_ | refine CW.condF rfl ?_ | (refine hK _ _ ?_; clear hK K))
    refine WL.step0 ?_
    refine OpW.store (v := .int _ _) rfl rfl rfl hb rfl (c' := #[_, _, _]) rfl ?_
    intro w1 hp1 hb1
    repeat (first | refine WL.nil ?_ | refine WL.auto (h := ?_) | refine WL.gskip rfl rfl rfl rfl ?_ | refine WL.gauto (h := ?_) | (refine CW.seq ?_; intro K hK) | refine CW.block ?_ | refine CW.region ?_ | refine CW.skip ?_ | refine CW.exit ?_ | refine CW.ret ?_ | (refine thn_ret (K := K) ?_; clear hK K) | refine thn_ret ?_ | refine blk_ret ?_ | (refine thn_exit (K := K) ?_; clear hK K) | refine thn_exit ?_ | refine blk_here ?_ | refine blk_past rfl ?_ | refine thn_norm ?_ | refine blk_norm ?_ | refine CW.condT rfl ?_ | refine CW.condF rfl ?_ | (refine hK _ _ ?_; clear hK K))
    refine WL.step0 ?_
    refine OpW.store (v := .bool _) rfl rfl rfl hb1 rfl (c' := #[_, _, _]) rfl ?_
    intro w2 hp2 hb2
    repeat (first | refine WL.nil ?_ | refine WL.auto (h := ?_) | refine WL.gskip rfl rfl rfl rfl ?_ | refine WL.gauto (h := ?_) | (refine CW.seq ?_; intro K hK) | refine CW.block ?_ | refine CW.region ?_ | refine CW.skip ?_ | refine CW.exit ?_ | refine CW.ret ?_ | (refine thn_ret (K := K) ?_; clear hK K) | refine thn_ret ?_ | refine blk_ret ?_ | (refine thn_exit (K := K) ?_; clear hK K) | refine thn_exit ?_ | refine blk_here ?_ | refine blk_past rfl ?_ | refine thn_norm ?_ | refine blk_norm ?_ | refine CW.condT rfl ?_ | refine CW.condF rfl ?_ | (refine hK _ _ ?_; clear hK K))
    refine out1 (v := .bool (decide ((d.armed : Int) - 1 = 0))) Try.results102 rfl ?_ (Or.inr rfl)
    have C := hp1.chg.andThen hp2.chg
    rw [show ((d.armed : Int) - 1) = ((d.armed - 1 : Nat) : Int) from by omega] at hb2 ⊢
    by_cases h3 : d.armed = 1
    · have e1 : d.begin = (true, 51, { d with off := true, armed := 0 }) := by unfold PD.begin; rw [if_neg (by simp [ho]), if_pos (by omega), if_pos h3]
      rw [e1]
      rw [decide_eq_true (p := ((d.armed - 1 : Nat) : Int) = 0) (by omega), show d.armed - 1 = 0 from by omega] at hb2
      exact ⟨congrArg Value.bool (by rw [decide_eq_true (p := ((d.armed - 1 : Nat) : Int) = 0) (by omega)]; rfl), rfl, Or.inr rfl, h.turn C hb2, C⟩
    · have e1 : d.begin = (true, 0, { d with armed := d.armed - 1 }) := by unfold PD.begin; rw [if_neg (by simp [ho]), if_pos (by omega), if_neg h3]
      rw [e1]
      rw [decide_eq_false (p := ((d.armed - 1 : Nat) : Int) = 0) (by omega)] at hb2
      refine ⟨congrArg Value.bool (by rw [decide_eq_false (p := ((d.armed - 1 : Nat) : Int) = 0) (by omega)]; rfl), rfl, Or.inl rfl, ?_, C⟩
      have := h.turn C hb2
      rw [← ho] at this
      exact this
theorem arm68 (tag : Nat → Tag) (mb : Nat) (RA : Option Addr) (rcap : Nat) (cells : List Value) (d : PD) (n : Int) (w : World) (h : RefAt tag w mb RA rcap cells d) :
    Ret Try.prog 68 #[.pointer (some ⟨mb, 0, none⟩), .int .i64 n] w fun v w' => RefAt tag w' mb RA rcap cells (d.arm n) ∧ Chg (· = mb) w w' := by
  have hb := h.blk
  refine Ret.enter (fn := Try.f68) (N := 14) Try.func68 rfl Try.ntmps68 rfl ?_
  repeat (first | refine WL.nil ?_ | refine WL.auto (h := ?_) | refine WL.gskip rfl rfl rfl rfl ?_ | refine WL.gauto (h := ?_) | (refine CW.seq ?_; intro K hK) | refine CW.block ?_ | refine CW.region ?_ | refine CW.skip ?_ | refine CW.exit ?_ | refine CW.ret ?_ | (refine thn_ret (K := K) ?_; clear hK K) | refine thn_ret ?_ | refine blk_ret ?_ | (refine thn_exit (K := K) ?_; clear hK K) | refine thn_exit ?_ | refine blk_here ?_ | refine blk_past rfl ?_ | refine thn_norm ?_ | refine blk_norm ?_ | refine CW.condT rfl ?_ | refine CW.condF rfl ?_ | (refine hK _ _ ?_; clear hK K))
  refine CW.cond rfl (fun h1 => ?_) (fun h1 => ?_)
  · have h2 : d.off = false := by simpa using h1
    have e1 : d.arm n = { d with armed := n.toNat } := by unfold PD.arm; rw [if_neg (by simp [h2])]
    repeat (first | refine WL.nil ?_ | refine WL.auto (h := ?_) | refine WL.gskip rfl rfl rfl rfl ?_ | refine WL.gauto (h := ?_) | (refine CW.seq ?_; intro K hK) | refine CW.block ?_ | refine CW.region ?_ | refine CW.skip ?_ | refine CW.exit ?_ | refine CW.ret ?_ | (refine thn_ret (K := K) ?_; clear hK K) | refine thn_ret ?_ | refine blk_ret ?_ | (refine thn_exit (K := K) ?_; clear hK K) | refine thn_exit ?_ | refine blk_here ?_ | refine blk_past rfl ?_ | refine thn_norm ?_ | refine blk_norm ?_ | refine CW.condT rfl ?_ | refine CW.condF rfl ?_ | (refine hK _ _ ?_; clear hK K))
    refine WL.step0 ?_
    refine OpW.store (v := .int _ _) rfl rfl rfl hb rfl (c' := #[_, _, _]) rfl ?_
    intro w1 hp1 hb1
    repeat (first | refine WL.nil ?_ | refine WL.auto (h := ?_) | refine WL.gskip rfl rfl rfl rfl ?_ | refine WL.gauto (h := ?_) | (refine CW.seq ?_; intro K hK) | refine CW.block ?_ | refine CW.region ?_ | refine CW.skip ?_ | refine CW.exit ?_ | refine CW.ret ?_ | (refine thn_ret (K := K) ?_; clear hK K) | refine thn_ret ?_ | refine blk_ret ?_ | (refine thn_exit (K := K) ?_; clear hK K) | refine thn_exit ?_ | refine blk_here ?_ | refine blk_past rfl ?_ | refine thn_norm ?_ | refine blk_norm ?_ | refine CW.condT rfl ?_ | refine CW.condF rfl ?_ | (refine hK _ _ ?_; clear hK K))
    refine out0 Try.results68 ?_ (Or.inl rfl)
    rw [e1]
    rw [show (if n > 0 then n else 0) = ((n.toNat : Nat) : Int) from by split <;> omega] at hb1
    exact ⟨h.turn (off := d.off) hp1.chg hb1, hp1.chg⟩
  · have h2 : d.off = true := by simpa using h1
    have e1 : d.arm n = d := by unfold PD.arm; rw [if_pos h2]
    repeat (first | refine WL.nil ?_ | refine WL.auto (h := ?_) | refine WL.gskip rfl rfl rfl rfl ?_ | refine WL.gauto (h := ?_) | (refine CW.seq ?_; intro K hK) | refine CW.block ?_ | refine CW.region ?_ | refine CW.skip ?_ | refine CW.exit ?_ | refine CW.ret ?_ | (refine thn_ret (K := K) ?_; clear hK K) | refine thn_ret ?_ | refine blk_ret ?_ | (refine thn_exit (K := K) ?_; clear hK K) | refine thn_exit ?_ | refine blk_here ?_ | refine blk_past rfl ?_ | refine thn_norm ?_ | refine blk_norm ?_ | refine CW.condT rfl ?_ | refine CW.condF rfl ?_ | (refine hK _ _ ?_; clear hK K))
    refine out0 Try.results68 ?_ (Or.inl rfl)
    rw [e1]
    exact ⟨h, Chg.refl _ _⟩
theorem waiting58 (tag : Nat → Tag) (mb : Nat) (RA : Option Addr) (rcap : Nat) (cells : List Value) (d : PD) (w : World) (h : RefAt tag w mb RA rcap cells d) (hn : d.files.length ≤ 16) (hd : ∀ f ∈ d.files, f.data.length ≤ 1099511627776 ∧ f.safe ≤ f.data.length) :
    Ret Try.prog 58 #[.pointer (some ⟨mb, 0, none⟩)] w fun v w' => Grow w w' ∧ v = .int .i64 (waitOf d.files) := by
  have hb := h.blk
  refine Ret.enter (fn := Try.f58) (N := 25) Try.func58 rfl Try.ntmps58 rfl ?_
  repeat (first | refine WL.nil ?_ | refine WL.auto (h := ?_) | refine WL.gskip rfl rfl rfl rfl ?_ | refine WL.gauto (h := ?_) | (refine CW.seq ?_; intro K hK) | refine CW.block ?_ | refine CW.region ?_ | refine CW.skip ?_ | refine CW.exit ?_ | refine CW.ret ?_ | (refine thn_ret (K := K) ?_; clear hK K) | refine thn_ret ?_ | refine blk_ret ?_ | (refine thn_exit (K := K) ?_; clear hK K) | refine thn_exit ?_ | refine blk_here ?_ | refine blk_past rfl ?_ | refine thn_norm ?_ | refine blk_norm ?_ | refine CW.condT rfl ?_ | refine CW.condF rfl ?_ | (refine hK _ _ ?_; clear hK K))
  refine CW.loop (fun n' e w2 => ∃ k, k ≤ d.files.length ∧ n' = d.files.length - k ∧ Grow w w2 ∧ ∃ e0, e = upd (upd (upd (upd e0 3 (.int .i64 (waitOf (d.files.take k)))) 9 (.slice RA d.files.length rcap)) 10 (.int .i64 d.files.length)) 11 (.int .i64 k)) d.files.length ?_ ?_
  · exact ⟨0, by omega, rfl, Chg.refl _ _, rep4 rfl rfl rfl rfl⟩
  rintro n' e w2 ⟨k, hk, rfl, g2, e0, rfl⟩ KJ hJ
  repeat (first | refine WL.nil ?_ | refine WL.auto (h := ?_) | refine WL.gskip rfl rfl rfl rfl ?_ | refine WL.gauto (h := ?_) | (refine CW.seq ?_; intro K hK) | refine CW.block ?_ | refine CW.region ?_ | refine CW.skip ?_ | refine CW.exit ?_ | refine CW.ret ?_ | (refine thn_ret (K := K) ?_; clear hK K) | refine thn_ret ?_ | refine blk_ret ?_ | (refine thn_exit (K := K) ?_; clear hK K) | refine thn_exit ?_ | refine blk_here ?_ | refine blk_past rfl ?_ | refine thn_norm ?_ | refine blk_norm ?_ | refine CW.condT rfl ?_ | refine CW.condF rfl ?_ | (refine hK _ _ ?_; clear hK K))
  refine CW.condP rfl (fun h2 => ?_) (fun h2 => ?_)
  · have hkl : k < d.files.length := by omega
    have h3 := h.grow g2
    obtain ⟨DA, cap, q0, q1, q2, q3, q4, q5, q6⟩ := h3.at_ (List.getElem?_eq_getElem hkl)
    have hsl := h3.own.sl
    have hw := waitOf_le (l := d.files.take k) fun f hf => hd f (List.mem_of_mem_take hf)
    have hl : (d.files.take k).length ≤ 16 := by simp; omega
    have hf := hd d.files[k] (List.getElem_mem hkl)
    have hsn := waitOf_snoc hkl
    repeat (first | refine WL.nil ?_ | refine WL.auto (h := ?_) | refine WL.gskip rfl rfl rfl rfl ?_ | refine WL.gauto (h := ?_) | (refine CW.seq ?_; intro K hK) | refine CW.block ?_ | refine CW.region ?_ | refine CW.skip ?_ | refine CW.exit ?_ | refine CW.ret ?_ | (refine thn_ret (K := K) ?_; clear hK K) | refine thn_ret ?_ | refine blk_ret ?_ | (refine thn_exit (K := K) ?_; clear hK K) | refine thn_exit ?_ | refine blk_here ?_ | refine blk_past rfl ?_ | refine thn_norm ?_ | refine blk_norm ?_ | refine CW.condT rfl ?_ | refine CW.condF rfl ?_ | (refine hK _ _ ?_; clear hK K))
    first | refine WL.step rfl ?_ | refine WL.gstep rfl rfl rfl rfl ?_
    refine OpW.indexAddr k rfl rfl rfl hkl q4 q5 ?_
    repeat (first | refine WL.nil ?_ | refine WL.auto (h := ?_) | refine WL.gskip rfl rfl rfl rfl ?_ | refine WL.gauto (h := ?_) | (refine CW.seq ?_; intro K hK) | refine CW.block ?_ | refine CW.region ?_ | refine CW.skip ?_ | refine CW.exit ?_ | refine CW.ret ?_ | (refine thn_ret (K := K) ?_; clear hK K) | refine thn_ret ?_ | refine blk_ret ?_ | (refine thn_exit (K := K) ?_; clear hK K) | refine thn_exit ?_ | refine blk_here ?_ | refine blk_past rfl ?_ | refine thn_norm ?_ | refine blk_norm ?_ | refine CW.condT rfl ?_ | refine CW.condF rfl ?_ | (refine hK _ _ ?_; clear hK K))
    first | refine WL.step rfl ?_ | refine WL.gstep rfl rfl rfl rfl ?_
    refine OpW.loadAggS _ rfl hsl q6 rfl (by decide) ?_
    repeat (first | refine WL.nil ?_ | refine WL.auto (h := ?_) | refine WL.gskip rfl rfl rfl rfl ?_ | refine WL.gauto (h := ?_) | (refine CW.seq ?_; intro K hK) | refine CW.block ?_ | refine CW.region ?_ | refine CW.skip ?_ | refine CW.exit ?_ | refine CW.ret ?_ | (refine thn_ret (K := K) ?_; clear hK K) | refine thn_ret ?_ | refine blk_ret ?_ | (refine thn_exit (K := K) ?_; clear hK K) | refine thn_exit ?_ | refine blk_here ?_ | refine blk_past rfl ?_ | refine thn_norm ?_ | refine blk_norm ?_ | refine CW.condT rfl ?_ | refine CW.condF rfl ?_ | (refine hK _ _ ?_; clear hK K))
    first | refine WL.step rfl ?_ | refine WL.gstep rfl rfl rfl rfl ?_
    refine OpW.alloc (fun b3 w3 n3 => ?_)
    repeat (first | refine WL.nil ?_ | refine WL.auto (h := ?_) | refine WL.gskip rfl rfl rfl rfl ?_ | refine WL.gauto (h := ?_) | (refine CW.seq ?_; intro K hK) | refine CW.block ?_ | refine CW.region ?_ | refine CW.skip ?_ | refine CW.exit ?_ | refine CW.ret ?_ | (refine thn_ret (K := K) ?_; clear hK K) | refine thn_ret ?_ | refine blk_ret ?_ | (refine thn_exit (K := K) ?_; clear hK K) | refine thn_exit ?_ | refine blk_here ?_ | refine blk_past rfl ?_ | refine thn_norm ?_ | refine blk_norm ?_ | refine CW.condT rfl ?_ | refine CW.condF rfl ?_ | (refine hK _ _ ?_; clear hK K))
    refine WL.step0 ?_
    refine OpW.storeAll rfl rfl rfl n3.blk rfl rfl (fun w4 p4 hb => ?_)
    have g4 : Grow w2 w4 := n3.grow.chgNew p4.chg (fun i hi h => by subst h; have := n3.fresh; omega)
    repeat (first | refine WL.nil ?_ | refine WL.auto (h := ?_) | refine WL.gskip rfl rfl rfl rfl ?_ | refine WL.gauto (h := ?_) | (refine CW.seq ?_; intro K hK) | refine CW.block ?_ | refine CW.region ?_ | refine CW.skip ?_ | refine CW.exit ?_ | refine CW.ret ?_ | (refine thn_ret (K := K) ?_; clear hK K) | refine thn_ret ?_ | refine blk_ret ?_ | (refine thn_exit (K := K) ?_; clear hK K) | refine thn_exit ?_ | refine blk_here ?_ | refine blk_past rfl ?_ | refine thn_norm ?_ | refine blk_norm ?_ | refine CW.condT rfl ?_ | refine CW.condF rfl ?_ | (refine hK _ _ ?_; clear hK K))
    exact hJ (d.files.length - (k + 1)) _ _ (by omega) ⟨k + 1, by omega, rfl, g2.then g4, rep4 (congrArg (Value.int .i64) (by rw [hsn])) rfl rfl (congrArg (Value.int .i64) (by omega))⟩
  · obtain rfl : k = d.files.length := by omega
    rw [List.take_length]
    repeat (first | refine WL.nil ?_ | refine WL.auto (h := ?_) | refine WL.gskip rfl rfl rfl rfl ?_ | refine WL.gauto (h := ?_) | (refine CW.seq ?_; intro K hK) | refine CW.block ?_ | refine CW.region ?_ | refine CW.skip ?_ | refine CW.exit ?_ | refine CW.ret ?_ | (refine thn_ret (K := K) ?_; clear hK K) | refine thn_ret ?_ | refine blk_ret ?_ | (refine thn_exit (K := K) ?_; clear hK K) | refine thn_exit ?_ | refine blk_here ?_ | refine blk_past rfl ?_ | refine thn_norm ?_ | refine blk_norm ?_ | refine CW.condT rfl ?_ | refine CW.condF rfl ?_ | (refine hK _ _ ?_; clear hK K))
    exact out1 Try.results58 rfl ⟨g2, rfl⟩ (Or.inr rfl)
end B
end Go.Proofs.Ytlofcomnhecgfaa
