/- Rules and contracts, put together out of smaller texts. Each part tells its conditions. -/
import Derived.Test.YtlofcomnhecgfaaLibC
/- The document's disk as it lies in memory; its New, right, find, goes, Arm, Waiting. Sizes are bounded. -/
namespace Go.Proofs.Ytlofcomnhecgfaa
namespace B
attribute [local irreducible] OpW WL CW Ret Sl Blk thn blk outOf
set_option linter.unusedVariables false
set_option linter.unusedSimpArgs false
set_option maxRecDepth 4000

def RFile (w : World) (cells : List Value) (i : Nat) (f : PF) (Z : Nat → Prop) : Prop :=
  ∃ DA cap, (cells.drop (i * 3)).take 3 = [.string (bstr f.name), .slice DA f.data.length cap, .int .i64 (f.safe : Int)] ∧ Own w DA 5 1 f.data.length cap (bvs f.data) Z
structure RefAt (tag : Nat → Tag) (w : World) (mb : Nat) (RA : Option Addr) (rcap : Nat) (cells : List Value) (d : PD) : Prop where
  tg : tag mb = .rdisk
  blk : Blk w mb #[.slice RA d.files.length rcap, .bool d.off, .int .i64 (d.armed : Int)] 79
  own : Own w RA 113 3 d.files.length rcap cells (fun b => tag b = .rarr)
  file : ∀ i f, d.files[i]? = some f → RFile w cells i f (fun b => tag b = .rdata i)
def RefRep (tag : Nat → Tag) (w : World) (mb : Nat) (d : PD) : Prop := ∃ RA rcap cells, RefAt tag w mb RA rcap cells d
section
variable {S : Nat → Prop} {tag tag' : Nat → Tag} {w w' : World} {mb : Nat} {RA : Option Addr} {rcap : Nat} {cells : List Value} {d : PD} {f : PF} {i : Nat} {Z Z' : Nat → Prop}
theorem RFile.keep (h : RFile w cells i f Z) (hc : Chg S w w') (h2 : ∀ b, Z b → ¬ S b) : RFile w' cells i f Z := by
  obtain ⟨DA, cap, g1, g2⟩ := h
  exact ⟨DA, cap, g1, g2.keep hc h2⟩
theorem RFile.mono (h : RFile w cells i f Z) (hz : ∀ b, b < w.heap.size → Z b → Z' b) : RFile w cells i f Z' := by
  obtain ⟨DA, cap, g1, g2⟩ := h
  exact ⟨DA, cap, g1, g2.zone fun a ha => hz _ (g2.in_ ha).2 (g2.in_ ha).1⟩
theorem RefAt.keep (h : RefAt tag w mb RA rcap cells d) (hc : Chg S w w') (hS : ∀ b, (tag b).ref = true → ¬ S b) : RefAt tag w' mb RA rcap cells d :=
  ⟨h.tg, h.blk.keep hc (hS mb (by rw [h.tg]; rfl)), h.own.keep hc fun b hb => hS b (by rw [hb]; rfl), fun i f h1 => (h.file i f h1).keep hc fun b hb => hS b (by rw [hb]; rfl)⟩
theorem RefAt.grow (h : RefAt tag w mb RA rcap cells d) (hc : Grow w w') : RefAt tag w' mb RA rcap cells d := h.keep hc fun _ _ hf => hf
theorem RefAt.retag (h : RefAt tag w mb RA rcap cells d) (ht : ∀ k, k < w.heap.size → tag' k = tag k) : RefAt tag' w mb RA rcap cells d :=
  ⟨by rw [ht _ h.blk.lt]; exact h.tg, h.blk, h.own.zone fun a ha => by
    show tag' a.block = .rarr
    rw [ht _ (h.own.in_ ha).2]; exact (h.own.in_ ha).1, fun i f h1 => (h.file i f h1).mono fun b hb hz => by rw [ht _ hb]; exact hz⟩
theorem RefAt.turn (h : RefAt tag w mb RA rcap cells d) (hc : Chg (· = mb) w w') {off : Bool} {armed : Nat}
    (hb : Blk w' mb #[.slice RA d.files.length rcap, .bool off, .int .i64 (armed : Int)] 79) : RefAt tag w' mb RA rcap cells { d with off := off, armed := armed } := by
  have h0 := h.tg
  refine ⟨h.tg, hb, h.own.keep hc fun b ht e => ?_, fun i f h1 => (h.file i f h1).keep hc fun b ht e => ?_⟩
  · subst e; rw [h0] at ht; cases ht
  · subst e; rw [h0] at ht; cases ht
theorem RefAt.toRef (h : RefAt tag w mb RA rcap cells d) {a c : World} (hc : Chg (· = mb) a c) : Chg (fun b => (tag b).ref = true) a c :=
  hc.mono fun k _ e => by subst e; rw [h.tg]; rfl
/-- The cells of one file. -/
theorem RefAt.at_ (h : RefAt tag w mb RA rcap cells d) (hi : d.files[i]? = some f) :
    ∃ DA cap, cells[i * 3 + 0]? = some (.string (bstr f.name)) ∧ cells[i * 3 + 1]? = some (.slice DA f.data.length cap) ∧ cells[i * 3 + 2]? = some (.int .i64 (f.safe : Int)) ∧ Own w DA 5 1 f.data.length cap (bvs f.data) (fun b => tag b = .rdata i) ∧ RA ≠ none ∧ (∀ a, RA = some a → a.spot = none) ∧ (cells.drop (i * 3)).take 3 = [.string (bstr f.name), .slice DA f.data.length cap, .int .i64 (f.safe : Int)] := by
  obtain ⟨DA, cap, h1, h2⟩ := h.file i f hi
  have e0 : cells[i * 3 + 0]? = some (.string (bstr f.name)) := part_get (c := 0) h1 rfl
  exact ⟨DA, cap, e0, part_get (c := 1) h1 rfl, part_get (c := 2) h1 rfl, h2, sl_ne h.own.sl (List.getElem?_eq_some_iff.1 e0).1, spot_own h.own, h1⟩
/-- One cell of one file's turned, or its bytes. -/
theorem RefAt.setFile {f' : PF} {c : Nat} {v : Value} {DA : Option Addr} {cap : Nat} (h : RefAt tag w mb RA rcap cells d) (hi : d.files[i]? = some f) (hc : Chg S w w') (hS : ∀ b, S b → (∃ a, RA = some a ∧ a.block = b) ∨ tag b = .rdata i ∨ (tag b).ref = false) (hcc : c < 3)
    (ho : Own w' RA 113 3 d.files.length rcap (cells.set (i * 3 + c) v) (fun b => tag b = .rarr)) (hp : ((cells.drop (i * 3)).take 3).set c v = [.string (bstr f'.name), .slice DA f'.data.length cap, .int .i64 (f'.safe : Int)])
    (hd : Own w' DA 5 1 f'.data.length cap (bvs f'.data) (fun b => tag b = .rdata i)) : RefAt tag w' mb RA rcap (cells.set (i * 3 + c) v) { d with files := d.files.set i f' } := by
  have hn : ∀ b t, tag b = t → t ≠ .rarr → t ≠ .rdata i → t.ref = true → ¬ S b := fun b t e h1 h2 h3 hs => by
    subst e
    rcases hS b hs with ⟨a, ha, e⟩ | h | h
    · rw [← e] at h1; exact h1 (h.own.in_ ha).1
    · exact h2 h
    · rw [h] at h3; cases h3
  refine ⟨h.tg, ?_, ?_, fun j g h1 => ?_⟩
  · have := h.blk.keep hc (hn mb _ h.tg (by simp) (by simp) rfl)
    simpa using this
  · simpa using ho
  · by_cases hj : j = i
    · subst hj
      rw [List.getElem?_set_self (List.getElem?_eq_some_iff.1 hi).1] at h1
      cases h1
      exact ⟨DA, cap, by rw [part_set_self, hp], hd⟩
    · rw [List.getElem?_set_ne (fun e => hj e.symm)] at h1
      obtain ⟨DB, capB, g1, g2⟩ := h.file j g h1
      exact ⟨DB, capB, by rw [part_set_ne hj hcc, g1], g2.keep hc fun b hb => hn b _ hb (by simp) (by simp [hj]) rfl⟩
/-- What has happened to the document's disk. -/
def WentR (tag : Nat → Tag) (w w' : World) (mb : Nat) (d' : PD) : Prop :=
  ∃ tag', (∀ k, k < w.heap.size → tag' k = tag k) ∧ RefRep tag' w' mb d' ∧ Chg (fun b => (tag b).ref = true) w w'
/-- A file more: its cells, its bytes and, it may be, the row of files in new blocks. -/
theorem RefAt.snoc {RA' DA : Option Addr} {rcap' cap : Nat} {g : PF} (inA : Nat → Bool) (h : RefAt tag w mb RA rcap cells d)
    (C : Chg (fun k => k = mb ∨ ∃ a, RA = some a ∧ a.block = k) w w')
    (hb : Blk w' mb #[.slice RA' (d.files.length + 1) rcap', .bool d.off, .int .i64 (d.armed : Int)] 79)
    (ho : Own w' RA' 113 3 (d.files.length + 1) rcap' (cells ++ [.string (bstr g.name), .slice DA g.data.length cap, .int .i64 (g.safe : Int)]) (fun b => (∃ a, RA = some a ∧ a.block = b) ∨ (w.heap.size ≤ b ∧ inA b = true)))
    (hd : Own w' DA 5 1 g.data.length cap (bvs g.data) (fun b => w.heap.size ≤ b ∧ inA b = false)) :
    ∃ tag', (∀ k, k < w.heap.size → tag' k = tag k) ∧ RefAt tag' w' mb RA' rcap' (cells ++ [.string (bstr g.name), .slice DA g.data.length cap, .int .i64 (g.safe : Int)]) { d with files := d.files ++ [g] } := by
  refine ⟨fun k => if k < w.heap.size then tag k else if inA k = true then .rarr else .rdata d.files.length, fun k hk => if_pos hk, ?_⟩
  have hR := h.retag (tag' := fun k => if k < w.heap.size then tag k else if inA k = true then .rarr else .rdata d.files.length) fun k hk => if_pos hk
  have hcl : cells.length = d.files.length * 3 := h.own.1
  refine ⟨hR.tg, ?_, ?_, fun i x q1 => ?_⟩
  · simpa using hb
  · have o6z := ho.zone (Z' := fun k => (if k < w.heap.size then tag k else if inA k = true then Tag.rarr else .rdata d.files.length) = .rarr) fun a ha => by
      rcases (ho.in_ ha).1 with ⟨a', h1', h2'⟩ | h1'
      · have q := h.own.in_ h1'
        rw [h2'] at q
        show (if _ then _ else _) = _
        rw [if_pos q.2]; exact q.1
      · show (if _ then _ else _) = _
        rw [if_neg (by omega), if_pos h1'.2]
    simpa using o6z
  · rcases Nat.lt_or_ge i d.files.length with hi | hi
    · rw [List.getElem?_append_left hi] at q1
      obtain ⟨DB, capB, g1, g2⟩ := hR.file i x q1
      refine ⟨DB, capB, ?_, g2.keep C fun k hk => ?_⟩
      · rw [List.drop_append_of_le_length (by omega), List.take_append_of_le_length (by simp; omega)]
        exact g1
      · rintro (e | ⟨a, ha, e⟩)
        · rw [e, hR.tg] at hk; cases hk
        · have q := (hR.own.in_ ha).1
          rw [e, hk] at q; cases q
    · have hin : i = d.files.length := by
        have := (List.getElem?_eq_some_iff.1 q1).1
        simp at this; omega
      subst hin
      rw [List.getElem?_append_right (Nat.le_refl _), Nat.sub_self] at q1
      simp only [List.getElem?_cons_zero, Option.some.injEq] at q1
      subst q1
      refine ⟨DA, cap, ?_, hd.zone fun a ha => ?_⟩
      · rw [← hcl, List.drop_left]; rfl
      · have q := (hd.in_ ha).1
        show (if _ then _ else _) = _
        rw [if_neg (by omega), if_neg (by simp [q.2])]
end

theorem new59 (w : World) : Ret Try.prog 59 #[] w fun v w' => ∃ db, v = .pointer (some ⟨db, 0, none⟩) ∧ New w w' db (.cells #[.slice none 0 0, .bool false, .int .i64 0] 79) := by
  refine Ret.enter (fn := Try.f59) (N := 3) Try.func59 rfl Try.ntmps59 rfl ?_
  repeat (first | refine WL.nil ?_ | refine WL.auto (h := ?_) | refine WL.gskip rfl rfl rfl rfl ?_ | refine WL.gauto (h := ?_) | (refine CW.seq ?_; intro K hK) | refine CW.block ?_ | refine CW.region ?_ | refine CW.skip ?_ | refine CW.exit ?_ | refine CW.ret ?_ | (refine thn_ret (K := K) ?_; clear hK K) | refine thn_ret ?_ | refine blk_ret ?_ | (refine thn_exit (K := K) ?_; clear hK K) | refine thn_exit ?_ | refine blk_here ?_ | refine blk_past rfl ?_ | refine thn_norm ?_ | refine blk_norm ?_ | refine CW.condT rfl ?_ | refine CW.condF rfl ?_ | (refine hK _ _ ?_; clear hK K))
  first | refine WL.step rfl ?_ | refine WL.gstep rfl rfl rfl rfl ?_
  refine OpW.build (cells := #[.slice none 0 0, .bool false, .int .i64 0]) rfl rfl ?_
  repeat (first | refine WL.nil ?_ | refine WL.auto (h := ?_) | refine WL.gskip rfl rfl rfl rfl ?_ | refine WL.gauto (h := ?_) | (refine CW.seq ?_; intro K hK) | refine CW.block ?_ | refine CW.region ?_ | refine CW.skip ?_ | refine CW.exit ?_ | refine CW.ret ?_ | (refine thn_ret (K := K) ?_; clear hK K) | refine thn_ret ?_ | refine blk_ret ?_ | (refine thn_exit (K := K) ?_; clear hK K) | refine thn_exit ?_ | refine blk_here ?_ | refine blk_past rfl ?_ | refine thn_norm ?_ | refine blk_norm ?_ | refine CW.condT rfl ?_ | refine CW.condF rfl ?_ | (refine hK _ _ ?_; clear hK K))
  first | refine WL.step rfl ?_ | refine WL.gstep rfl rfl rfl rfl ?_
  refine OpW.box (v := .agg #[.slice none 0 0, .bool false, .int .i64 0]) rfl ?_
  intro b w2 hn
  repeat (first | refine WL.nil ?_ | refine WL.auto (h := ?_) | refine WL.gskip rfl rfl rfl rfl ?_ | refine WL.gauto (h := ?_) | (refine CW.seq ?_; intro K hK) | refine CW.block ?_ | refine CW.region ?_ | refine CW.skip ?_ | refine CW.exit ?_ | refine CW.ret ?_ | (refine thn_ret (K := K) ?_; clear hK K) | refine thn_ret ?_ | refine blk_ret ?_ | (refine thn_exit (K := K) ?_; clear hK K) | refine thn_exit ?_ | refine blk_here ?_ | refine blk_past rfl ?_ | refine thn_norm ?_ | refine blk_norm ?_ | refine CW.condT rfl ?_ | refine CW.condF rfl ?_ | (refine hK _ _ ?_; clear hK K))
  exact out1 (v := .pointer (some ⟨b, 0, none⟩)) Try.results59 rfl ⟨b, rfl, hn⟩ (Or.inr rfl)
theorem right74 (s : List UInt8) (w : World) (hl : s.length ≤ 70368744177664) : Ret Try.prog 74 #[.string (bstr s)] w fun v w' => v = .bool (rightName s) ∧ Grow w w' := by
  refine Ret.enter (fn := Try.f74) (N := 11) Try.func74 rfl Try.ntmps74 rfl ?_
  by_cases h1 : s = []
  · subst h1
    repeat (first | refine WL.nil ?_ | refine WL.auto (h := ?_) | refine WL.gskip rfl rfl rfl rfl ?_ | refine WL.gskipU rfl rfl rfl rfl ?_ | refine WL.gauto (h := ?_) | (refine CW.seq ?_; intro K hK) | refine CW.block ?_ | refine CW.region ?_ | refine CW.skip ?_ | refine CW.exit ?_ | refine CW.ret ?_ | (refine thn_ret (K := K) ?_; clear hK K) | refine thn_ret ?_ | refine blk_ret ?_ | (refine thn_exit (K := K) ?_; clear hK K) | refine thn_exit ?_ | refine blk_here ?_ | refine blk_past rfl ?_ | refine thn_norm ?_ | refine blk_norm ?_ | refine CW.condT rfl ?_ | refine CW.condF rfl ?_ | (refine hK _ _ ?_; clear hK K))
    exact out1 (v := .bool false) Try.results74 rfl ⟨by simp [rightName], Chg.refl _ _⟩ (Or.inr rfl)
  · have h2 : 1 ≤ s.length := by cases s <;> simp_all
    repeat (first | refine WL.nil ?_ | refine WL.auto (h := ?_) | refine WL.gskip rfl rfl rfl rfl ?_ | refine WL.gauto (h := ?_) | (refine CW.seq ?_; intro K hK) | refine CW.block ?_ | refine CW.region ?_ | refine CW.skip ?_ | refine CW.exit ?_ | refine CW.ret ?_ | (refine thn_ret (K := K) ?_; clear hK K) | refine thn_ret ?_ | refine blk_ret ?_ | (refine thn_exit (K := K) ?_; clear hK K) | refine thn_exit ?_ | refine blk_here ?_ | refine blk_past rfl ?_ | refine thn_norm ?_ | refine blk_norm ?_ | refine CW.condT rfl ?_ | refine CW.condF rfl ?_ | (refine hK _ _ ?_; clear hK K))
    rw [decide_eq_true (p := (1 : Int) ≤ ((bstr s).size : Int)) (by rw [bstr_size]; omega)]
    repeat (first | refine WL.nil ?_ | refine WL.auto (h := ?_) | refine WL.gskip rfl rfl rfl rfl ?_ | refine WL.gskipU rfl rfl rfl rfl ?_ | refine WL.gauto (h := ?_) | (refine CW.seq ?_; intro K hK) | refine CW.block ?_ | refine CW.region ?_ | refine CW.skip ?_ | refine CW.exit ?_ | refine CW.ret ?_ | (refine thn_ret (K := K) ?_; clear hK K) | refine thn_ret ?_ | refine blk_ret ?_ | (refine thn_exit (K := K) ?_; clear hK K) | refine thn_exit ?_ | refine blk_here ?_ | refine blk_past rfl ?_ | refine thn_norm ?_ | refine blk_norm ?_ | refine CW.condT rfl ?_ | refine CW.condF rfl ?_ | (refine hK _ _ ?_; clear hK K))
    refine out1 (v := .bool (decide ((s.length : Int) ≤ 32))) Try.results74 rfl ⟨congrArg Value.bool ?_, Chg.refl _ _⟩ (Or.inr rfl)
    unfold rightName
    rw [Bool.eq_iff_iff]
    simp only [h1, ne_eq, not_false_eq_true, decide_true, Bool.true_and, decide_eq_true_eq]
    omega
def ixInt : Option Nat → Int
  | none => -1
  | some i => (i : Int)
theorem find75 (tag : Nat → Tag) (mb : Nat) (RA : Option Addr) (rcap : Nat) (cells : List Value) (d : PD) (s : List UInt8) (w : World) (h : RefAt tag w mb RA rcap cells d) (hn : d.files.length ≤ 1048576) :
    Ret Try.prog 75 #[.pointer (some ⟨mb, 0, none⟩), .string (bstr s)] w fun v w' => Grow w w' ∧ v = .int .i64 (ixInt (d.ix s)) := by
  refine Ret.enter (fn := Try.f75) (N := 26) Try.func75 rfl Try.ntmps75 rfl ?_
  repeat (first | refine WL.nil ?_ | refine WL.auto (h := ?_) | refine WL.gskip rfl rfl rfl rfl ?_ | refine WL.gauto (h := ?_) | (refine CW.seq ?_; intro K hK) | refine CW.block ?_ | refine CW.region ?_ | refine CW.skip ?_ | refine CW.exit ?_ | refine CW.ret ?_ | (refine thn_ret (K := K) ?_; clear hK K) | refine thn_ret ?_ | refine blk_ret ?_ | (refine thn_exit (K := K) ?_; clear hK K) | refine thn_exit ?_ | refine blk_here ?_ | refine blk_past rfl ?_ | refine thn_norm ?_ | refine blk_norm ?_ | refine CW.condT rfl ?_ | refine CW.condF rfl ?_ | (refine hK _ _ ?_; clear hK K))
  refine CW.loop (fun n' e w2 => ∃ k, k ≤ d.files.length ∧ n' = d.files.length - k ∧ (∀ i f, i < k → d.files[i]? = some f → f.name ≠ s) ∧ Grow w w2 ∧ ∃ e0, e = upd (upd (upd e0 0 (.pointer (some ⟨mb, 0, none⟩))) 1 (.string (bstr s))) 5 (.int .i64 k)) d.files.length ?_ ?_
  · exact ⟨0, by omega, rfl, fun i f hi => by omega, Chg.refl _ _, rep3 rfl rfl rfl⟩
  rintro n' e w2 ⟨k, hk, rfl, hno, g2, e0, rfl⟩ KJ hJ
  have h2 := h.grow g2
  have hb := h2.blk
  repeat (first | refine WL.nil ?_ | refine WL.auto (h := ?_) | refine WL.gskip rfl rfl rfl rfl ?_ | refine WL.gauto (h := ?_) | (refine CW.seq ?_; intro K hK) | refine CW.block ?_ | refine CW.region ?_ | refine CW.skip ?_ | refine CW.exit ?_ | refine CW.ret ?_ | (refine thn_ret (K := K) ?_; clear hK K) | refine thn_ret ?_ | refine blk_ret ?_ | (refine thn_exit (K := K) ?_; clear hK K) | refine thn_exit ?_ | refine blk_here ?_ | refine blk_past rfl ?_ | refine thn_norm ?_ | refine blk_norm ?_ | refine CW.condT rfl ?_ | refine CW.condF rfl ?_ | (refine hK _ _ ?_; clear hK K))
  refine CW.condP rfl (fun h3 => ?_) (fun h3 => ?_)
  · have hkl : k < d.files.length := by omega
    obtain ⟨DA, cap, q0, q1, q2, q3, q4, q5, q6⟩ := h2.at_ (List.getElem?_eq_getElem hkl)
    have hsl := h2.own.sl
    repeat (first | refine WL.nil ?_ | refine WL.auto (h := ?_) | refine WL.gskip rfl rfl rfl rfl ?_ | refine WL.gauto (h := ?_) | (refine CW.seq ?_; intro K hK) | refine CW.block ?_ | refine CW.region ?_ | refine CW.skip ?_ | refine CW.exit ?_ | refine CW.ret ?_ | (refine thn_ret (K := K) ?_; clear hK K) | refine thn_ret ?_ | refine blk_ret ?_ | (refine thn_exit (K := K) ?_; clear hK K) | refine thn_exit ?_ | refine blk_here ?_ | refine blk_past rfl ?_ | refine thn_norm ?_ | refine blk_norm ?_ | refine CW.condT rfl ?_ | refine CW.condF rfl ?_ | (refine hK _ _ ?_; clear hK K))
    first | refine WL.step rfl ?_ | refine WL.gstep rfl rfl rfl rfl ?_
    refine OpW.indexAddr k rfl rfl rfl hkl q4 q5 ?_
    repeat (first | refine WL.nil ?_ | refine WL.auto (h := ?_) | refine WL.gskip rfl rfl rfl rfl ?_ | refine WL.gauto (h := ?_) | (refine CW.seq ?_; intro K hK) | refine CW.block ?_ | refine CW.region ?_ | refine CW.skip ?_ | refine CW.exit ?_ | refine CW.ret ?_ | (refine thn_ret (K := K) ?_; clear hK K) | refine thn_ret ?_ | refine blk_ret ?_ | (refine thn_exit (K := K) ?_; clear hK K) | refine thn_exit ?_ | refine blk_here ?_ | refine blk_past rfl ?_ | refine thn_norm ?_ | refine blk_norm ?_ | refine CW.condT rfl ?_ | refine CW.condF rfl ?_ | (refine hK _ _ ?_; clear hK K))
    refine CW.condP rfl (fun h6 => ?_) (fun h6 => ?_)
    · repeat (first | refine WL.nil ?_ | refine WL.auto (h := ?_) | refine WL.gskip rfl rfl rfl rfl ?_ | refine WL.gauto (h := ?_) | (refine CW.seq ?_; intro K hK) | refine CW.block ?_ | refine CW.region ?_ | refine CW.skip ?_ | refine CW.exit ?_ | refine CW.ret ?_ | (refine thn_ret (K := K) ?_; clear hK K) | refine thn_ret ?_ | refine blk_ret ?_ | (refine thn_exit (K := K) ?_; clear hK K) | refine thn_exit ?_ | refine blk_here ?_ | refine blk_past rfl ?_ | refine thn_norm ?_ | refine blk_norm ?_ | refine CW.condT rfl ?_ | refine CW.condF rfl ?_ | (refine hK _ _ ?_; clear hK K))
      refine out1 (v := .int .i64 k) Try.results75 rfl ⟨g2, ?_⟩ (Or.inr rfl)
      have : d.ix s = some k := by
        unfold PD.ix
        rw [List.findIdx?_eq_some_iff_getElem]
        exact ⟨hkl, by simpa using h6, fun j hj => by simpa using hno j d.files[j] hj (List.getElem?_eq_getElem (by omega))⟩
      rw [this]; rfl
    · repeat (first | refine WL.nil ?_ | refine WL.auto (h := ?_) | refine WL.gskip rfl rfl rfl rfl ?_ | refine WL.gauto (h := ?_) | (refine CW.seq ?_; intro K hK) | refine CW.block ?_ | refine CW.region ?_ | refine CW.skip ?_ | refine CW.exit ?_ | refine CW.ret ?_ | (refine thn_ret (K := K) ?_; clear hK K) | refine thn_ret ?_ | refine blk_ret ?_ | (refine thn_exit (K := K) ?_; clear hK K) | refine thn_exit ?_ | refine blk_here ?_ | refine blk_past rfl ?_ | refine thn_norm ?_ | refine blk_norm ?_ | refine CW.condT rfl ?_ | refine CW.condF rfl ?_ | (refine hK _ _ ?_; clear hK K))
      refine hJ (d.files.length - (k + 1)) _ _ (by omega) ⟨k + 1, by omega, rfl, fun i f hi hf => ?_, g2, rep3 rfl rfl (congrArg (Value.int .i64) (by omega))⟩
      rcases Nat.lt_or_ge i k with hi' | hi'
      · exact hno i f hi' hf
      · obtain rfl : i = k := by omega
        rw [List.getElem?_eq_getElem hkl] at hf
        cases hf
        exact h6
  · obtain rfl : k = d.files.length := by omega
    repeat (first | refine WL.nil ?_ | refine WL.auto (h := ?_) | refine WL.gskip rfl rfl rfl rfl ?_ | refine WL.gauto (h := ?_) | (refine CW.seq ?_; intro K hK) | refine CW.block ?_ | refine CW.region ?_ | refine CW.skip ?_ | refine CW.exit ?_ | refine CW.ret ?_ | (refine thn_ret (K := K) ?_; clear hK K) | refine thn_ret ?_ | refine blk_ret ?_ | (refine thn_exit (K := K) ?_; clear hK K) | refine thn_exit ?_ | refine blk_here ?_ | refine blk_past rfl ?_ | refine thn_norm ?_ | refine blk_norm ?_ | refine CW.condT rfl ?_ | refine CW.condF rfl ?_ | (refine hK _ _ ?_; clear hK K))
    refine out1 (v := .int .i64 (-1)) Try.results75 rfl ⟨g2, ?_⟩ (Or.inr rfl)
    have : d.ix s = none := by
      unfold PD.ix
      rw [List.findIdx?_eq_none_iff]
      intro f hf
      obtain ⟨i, hi⟩ := List.getElem?_of_mem hf
      simpa using hno i f (List.getElem?_eq_some_iff.1 hi).1 hi
    rw [this]; rfl
theorem goes102 (tag : Nat → Tag) (mb : Nat) (RA : Option Addr) (rcap : Nat) (cells : List Value) (d : PD) (w : World) (h : RefAt tag w mb RA rcap cells d) (ha : d.armed ≤ 9223372036854775807) (ho : d.off = false) :
    Ret Try.prog 102 #[.pointer (some ⟨mb, 0, none⟩)] w fun v w' => v = .bool (decide (d.begin.2.1 = 51)) ∧ d.begin.1 = true ∧ (d.begin.2.1 = 0 ∨ d.begin.2.1 = 51) ∧ RefAt tag w' mb RA rcap cells d.begin.2.2 ∧ Chg (· = mb) w w' := by
  have hb := h.blk
  refine Ret.enter (fn := Try.f102) (N := 27) Try.func102 rfl Try.ntmps102 rfl ?_
  repeat (first | refine WL.nil ?_ | refine WL.auto (h := ?_) | refine WL.gskip rfl rfl rfl rfl ?_ | refine WL.gauto (h := ?_) | (refine CW.seq ?_; intro K hK) | refine CW.block ?_ | refine CW.region ?_ | refine CW.skip ?_ | refine CW.exit ?_ | refine CW.ret ?_ | (refine thn_ret (K := K) ?_; clear hK K) | refine thn_ret ?_ | refine blk_ret ?_ | (refine thn_exit (K := K) ?_; clear hK K) | refine thn_exit ?_ | refine blk_here ?_ | refine blk_past rfl ?_ | refine thn_norm ?_ | refine blk_norm ?_ | refine CW.condT rfl ?_ | refine CW.condF rfl ?_ | (refine hK _ _ ?_; clear hK K))
  refine CW.condP rfl (fun h2 => ?_) (fun h2 => ?_)
  · have e1 : d.begin = (true, 0, d) := by unfold PD.begin; rw [if_neg (by simp [ho]), if_neg (by omega)]
    repeat (first | refine WL.nil ?_ | refine WL.auto (h := ?_) | refine WL.gskip rfl rfl rfl rfl ?_ | refine WL.gauto (h := ?_) | (refine CW.seq ?_; intro K hK) | refine CW.block ?_ | refine CW.region ?_ | refine CW.skip ?_ | refine CW.exit ?_ | refine CW.ret ?_ | (refine thn_ret (K := K) ?_; clear hK K) | refine thn_ret ?_ | refine blk_ret ?_ | (refine thn_exit (K := K) ?_; clear hK K) | refine thn_exit ?_ | refine blk_here ?_ | refine blk_past rfl ?_ | refine thn_norm ?_ | refine blk_norm ?_ | refine CW.condT rfl ?_ | refine CW.condF rfl ?_ | (refine hK _ _ ?_; clear hK K))
    refine out1 (v := .bool false) Try.results102 rfl ?_ (Or.inr rfl)
    rw [e1]
    exact ⟨rfl, rfl, Or.inl rfl, h, Chg.refl _ _⟩
  · repeat (first | refine WL.nil ?_ | refine WL.auto (h := ?_) | refine WL.gskip rfl rfl rfl rfl ?_ | refine WL.gauto (h := ?_) | (refine CW.seq ?_; intro K hK) | refine CW.block ?_ | refine CW.region ?_ | refine CW.skip ?_ | refine CW.exit ?_ | refine CW.ret ?_ | (refine thn_ret (K := K) ?_; clear hK K) | refine thn_ret ?_ | refine blk_ret ?_ | (refine thn_exit (K := K) ?_; clear hK K) | refine thn_exit ?_ | refine blk_here ?_ | refine blk_past rfl ?_ | refine thn_norm ?_ | refine blk_norm ?_ | refine CW.condT rfl ?_ | refine CW.condF rfl ?_ | (refine hK _ _ ?_; clear hK K))
    refine WL.step0 ?_
    refine OpW.store (v := .int _ _) rfl rfl rfl hb rfl (c' := #[_, _, _]) rfl ?_
    intro w1 hp1 hb1
    repeat (first | refine WL.nil ?_ | refine WL.auto (h := ?_) | refine WL.gskip rfl rfl rfl rfl ?_ | refine WL.gauto (h := ?_) | (refine CW.seq ?_; intro K hK) | refine CW.block ?_ | refine CW.region ?_ | refine CW.skip ?_ | refine CW.exit ?_ | refine CW.ret ?_ | (refine thn_ret (K := K) ?_; clear hK K) | refine thn_ret ?_ | refine blk_ret ?_ | (refine thn_exit (K := K) ?_; clear hK K) | refine thn_exit ?_ | refine blk_here ?_ | refine blk_past rfl ?_ | refine thn_norm ?_ | refine blk_norm ?_ | refine CW.condT rfl ?_ | refine CW.condF rfl ?_ | (refine hK _ _ ?_; clear hK K))
    refine WL.step0 ?_
    refine OpW.store (v := .bool _) rfl rfl rfl hb1 rfl (c' := #[_, _, _]) rfl ?_
    intro w2 hp2 hb2
    repeat (first | refine WL.nil ?_ | refine WL.auto (h := ?_) | refine WL.gskip rfl rfl rfl rfl ?_ | refine WL.gauto (h := ?_) | (refine CW.seq ?_; intro K hK) | refine CW.block ?_ | refine CW.region ?_ | refine CW.skip ?_ | refine CW.exit ?_ | refine CW.ret ?_ | (refine thn_ret (K := K) ?_; clear hK K) | refine thn_ret ?_ | refine blk_ret ?_ | (refine thn_exit (K := K) ?_; clear hK K) | refine thn_exit ?_ | refine blk_here ?_ | refine blk_past rfl ?_ | refine thn_norm ?_ | refine blk_norm ?_ | refine CW.condT rfl ?_ | refine CW.condF rfl ?_ | (refine hK _ _ ?_; clear hK K))
    refine out1 (v := .bool (decide ((d.armed : Int) - 1 = 0))) Try.results102 rfl ?_ (Or.inr rfl)
    have C := hp1.chg.andThen hp2.chg
    rw [show ((d.armed : Int) - 1) = ((d.armed - 1 : Nat) : Int) from by omega] at hb2 ⊢
    by_cases h3 : d.armed = 1
    · have e1 : d.begin = (true, 51, { d with off := true, armed := 0 }) := by unfold PD.begin; rw [if_neg (by simp [ho]), if_pos (by omega), if_pos h3]
      rw [e1]
      rw [decide_eq_true (p := ((d.armed - 1 : Nat) : Int) = 0) (by omega), show d.armed - 1 = 0 from by omega] at hb2
      exact ⟨congrArg Value.bool (by rw [decide_eq_true (p := ((d.armed - 1 : Nat) : Int) = 0) (by omega)]; rfl), rfl, Or.inr rfl, h.turn C hb2, C⟩
    · have e1 : d.begin = (true, 0, { d with armed := d.armed - 1 }) := by unfold PD.begin; rw [if_neg (by simp [ho]), if_pos (by omega), if_neg h3]
      rw [e1]
      rw [decide_eq_false (p := ((d.armed - 1 : Nat) : Int) = 0) (by omega)] at hb2
      refine ⟨congrArg Value.bool (by rw [decide_eq_false (p := ((d.armed - 1 : Nat) : Int) = 0) (by omega)]; rfl), rfl, Or.inl rfl, ?_, C⟩
      have := h.turn C hb2
      rw [← ho] at this
      exact this
theorem arm68 (tag : Nat → Tag) (mb : Nat) (RA : Option Addr) (rcap : Nat) (cells : List Value) (d : PD) (n : Int) (w : World) (h : RefAt tag w mb RA rcap cells d) :
    Ret Try.prog 68 #[.pointer (some ⟨mb, 0, none⟩), .int .i64 n] w fun v w' => RefAt tag w' mb RA rcap cells (d.arm n) ∧ Chg (· = mb) w w' := by
  have hb := h.blk
  refine Ret.enter (fn := Try.f68) (N := 14) Try.func68 rfl Try.ntmps68 rfl ?_
  repeat (first | refine WL.nil ?_ | refine WL.auto (h := ?_) | refine WL.gskip rfl rfl rfl rfl ?_ | refine WL.gauto (h := ?_) | (refine CW.seq ?_; intro K hK) | refine CW.block ?_ | refine CW.region ?_ | refine CW.skip ?_ | refine CW.exit ?_ | refine CW.ret ?_ | (refine thn_ret (K := K) ?_; clear hK K) | refine thn_ret ?_ | refine blk_ret ?_ | (refine thn_exit (K := K) ?_; clear hK K) | refine thn_exit ?_ | refine blk_here ?_ | refine blk_past rfl ?_ | refine thn_norm ?_ | refine blk_norm ?_ | refine CW.condT rfl ?_ | refine CW.condF rfl ?_ | (refine hK _ _ ?_; clear hK K))
  refine CW.cond rfl (fun h1 => ?_) (fun h1 => ?_)
  · have h2 : d.off = false := by simpa using h1
    have e1 : d.arm n = { d with armed := n.toNat } := by unfold PD.arm; rw [if_neg (by simp [h2])]
    repeat (first | refine WL.nil ?_ | refine WL.auto (h := ?_) | refine WL.gskip rfl rfl rfl rfl ?_ | refine WL.gauto (h := ?_) | (refine CW.seq ?_; intro K hK) | refine CW.block ?_ | refine CW.region ?_ | refine CW.skip ?_ | refine CW.exit ?_ | refine CW.ret ?_ | (refine thn_ret (K := K) ?_; clear hK K) | refine thn_ret ?_ | refine blk_ret ?_ | (refine thn_exit (K := K) ?_; clear hK K) | refine thn_exit ?_ | refine blk_here ?_ | refine blk_past rfl ?_ | refine thn_norm ?_ | refine blk_norm ?_ | refine CW.condT rfl ?_ | refine CW.condF rfl ?_ | (refine hK _ _ ?_; clear hK K))
    refine WL.step0 ?_
    refine OpW.store (v := .int _ _) rfl rfl rfl hb rfl (c' := #[_, _, _]) rfl ?_
    intro w1 hp1 hb1
    repeat (first | refine WL.nil ?_ | refine WL.auto (h := ?_) | refine WL.gskip rfl rfl rfl rfl ?_ | refine WL.gauto (h := ?_) | (refine CW.seq ?_; intro K hK) | refine CW.block ?_ | refine CW.region ?_ | refine CW.skip ?_ | refine CW.exit ?_ | refine CW.ret ?_ | (refine thn_ret (K := K) ?_; clear hK K) | refine thn_ret ?_ | refine blk_ret ?_ | (refine thn_exit (K := K) ?_; clear hK K) | refine thn_exit ?_ | refine blk_here ?_ | refine blk_past rfl ?_ | refine thn_norm ?_ | refine blk_norm ?_ | refine CW.condT rfl ?_ | refine CW.condF rfl ?_ | (refine hK _ _ ?_; clear hK K))
    refine out0 Try.results68 ?_ (Or.inl rfl)
    rw [e1]
    rw [show (if n > 0 then n else 0) = ((n.toNat : Nat) : Int) from by split <;> omega] at hb1
    exact ⟨h.turn (off := d.off) hp1.chg hb1, hp1.chg⟩
  · have h2 : d.off = true := by simpa using h1
    have e1 : d.arm n = d := by unfold PD.arm; rw [if_pos h2]
    repeat (first | refine WL.nil ?_ | refine WL.auto (h := ?_) | refine WL.gskip rfl rfl rfl rfl ?_ | refine WL.gauto (h := ?_) | (refine CW.seq ?_; intro K hK) | refine CW.block ?_ | refine CW.region ?_ | refine CW.skip ?_ | refine CW.exit ?_ | refine CW.ret ?_ | (refine thn_ret (K := K) ?_; clear hK K) | refine thn_ret ?_ | refine blk_ret ?_ | (refine thn_exit (K := K) ?_; clear hK K) | refine thn_exit ?_ | refine blk_here ?_ | refine blk_past rfl ?_ | refine thn_norm ?_ | refine blk_norm ?_ | refine CW.condT rfl ?_ | refine CW.condF rfl ?_ | (refine hK _ _ ?_; clear hK K))
    refine out0 Try.results68 ?_ (Or.inl rfl)
    rw [e1]
    exact ⟨h, Chg.refl _ _⟩
theorem waiting58 (tag : Nat → Tag) (mb : Nat) (RA : Option Addr) (rcap : Nat) (cells : List Value) (d : PD) (w : World) (h : RefAt tag w mb RA rcap cells d) (hn : d.files.length ≤ 16) (hd : ∀ f ∈ d.files, f.data.length ≤ 1099511627776 ∧ f.safe ≤ f.data.length) :
    Ret Try.prog 58 #[.pointer (some ⟨mb, 0, none⟩)] w fun v w' => Grow w w' ∧ v = .int .i64 (waitOf d.files) := by
  have hb := h.blk
  refine Ret.enter (fn := Try.f58) (N := 25) Try.func58 rfl Try.ntmps58 rfl ?_
  repeat (first | refine WL.nil ?_ | refine WL.auto (h := ?_) | refine WL.gskip rfl rfl rfl rfl ?_ | refine WL.gauto (h := ?_) | (refine CW.seq ?_; intro K hK) | refine CW.block ?_ | refine CW.region ?_ | refine CW.skip ?_ | refine CW.exit ?_ | refine CW.ret ?_ | (refine thn_ret (K := K) ?_; clear hK K) | refine thn_ret ?_ | refine blk_ret ?_ | (refine thn_exit (K := K) ?_; clear hK K) | refine thn_exit ?_ | refine blk_here ?_ | refine blk_past rfl ?_ | refine thn_norm ?_ | refine blk_norm ?_ | refine CW.condT rfl ?_ | refine CW.condF rfl ?_ | (refine hK _ _ ?_; clear hK K))
  refine CW.loop (fun n' e w2 => ∃ k, k ≤ d.files.length ∧ n' = d.files.length - k ∧ Grow w w2 ∧ ∃ e0, e = upd (upd (upd (upd e0 3 (.int .i64 (waitOf (d.files.take k)))) 9 (.slice RA d.files.length rcap)) 10 (.int .i64 d.files.length)) 11 (.int .i64 k)) d.files.length ?_ ?_
  · exact ⟨0, by omega, rfl, Chg.refl _ _, rep4 rfl rfl rfl rfl⟩
  rintro n' e w2 ⟨k, hk, rfl, g2, e0, rfl⟩ KJ hJ
  repeat (first | refine WL.nil ?_ | refine WL.auto (h := ?_) | refine WL.gskip rfl rfl rfl rfl ?_ | refine WL.gauto (h := ?_) | (refine CW.seq ?_; intro K hK) | refine CW.block ?_ | refine CW.region ?_ | refine CW.skip ?_ | refine CW.exit ?_ | refine CW.ret ?_ | (refine thn_ret (K := K) ?_; clear hK K) | refine thn_ret ?_ | refine blk_ret ?_ | (refine thn_exit (K := K) ?_; clear hK K) | refine thn_exit ?_ | refine blk_here ?_ | refine blk_past rfl ?_ | refine thn_norm ?_ | refine blk_norm ?_ | refine CW.condT rfl ?_ | refine CW.condF rfl ?_ | (refine hK _ _ ?_; clear hK K))
  refine CW.condP rfl (fun h2 => ?_) (fun h2 => ?_)
  · have hkl : k < d.files.length := by omega
    have h3 := h.grow g2
    obtain ⟨DA, cap, q0, q1, q2, q3, q4, q5, q6⟩ := h3.at_ (List.getElem?_eq_getElem hkl)
    have hsl := h3.own.sl
    have hw := waitOf_le (l := d.files.take k) fun f hf => hd f (List.mem_of_mem_take hf)
    have hl : (d.files.take k).length ≤ 16 := by simp; omega
    have hf := hd d.files[k] (List.getElem_mem hkl)
    have hsn := waitOf_snoc hkl
    repeat (first | refine WL.nil ?_ | refine WL.auto (h := ?_) | refine WL.gskip rfl rfl rfl rfl ?_ | refine WL.gauto (h := ?_) | (refine CW.seq ?_; intro K hK) | refine CW.block ?_ | refine CW.region ?_ | refine CW.skip ?_ | refine CW.exit ?_ | refine CW.ret ?_ | (refine thn_ret (K := K) ?_; clear hK K) | refine thn_ret ?_ | refine blk_ret ?_ | (refine thn_exit (K := K) ?_; clear hK K) | refine thn_exit ?_ | refine blk_here ?_ | refine blk_past rfl ?_ | refine thn_norm ?_ | refine blk_norm ?_ | refine CW.condT rfl ?_ | refine CW.condF rfl ?_ | (refine hK _ _ ?_; clear hK K))
    first | refine WL.step rfl ?_ | refine WL.gstep rfl rfl rfl rfl ?_
    refine OpW.indexAddr k rfl rfl rfl hkl q4 q5 ?_
    repeat (first | refine WL.nil ?_ | refine WL.auto (h := ?_) | refine WL.gskip rfl rfl rfl rfl ?_ | refine WL.gauto (h := ?_) | (refine CW.seq ?_; intro K hK) | refine CW.block ?_ | refine CW.region ?_ | refine CW.skip ?_ | refine CW.exit ?_ | refine CW.ret ?_ | (refine thn_ret (K := K) ?_; clear hK K) | refine thn_ret ?_ | refine blk_ret ?_ | (refine thn_exit (K := K) ?_; clear hK K) | refine thn_exit ?_ | refine blk_here ?_ | refine blk_past rfl ?_ | refine thn_norm ?_ | refine blk_norm ?_ | refine CW.condT rfl ?_ | refine CW.condF rfl ?_ | (refine hK _ _ ?_; clear hK K))
    first | refine WL.step rfl ?_ | refine WL.gstep rfl rfl rfl rfl ?_
    refine OpW.loadAggS _ rfl hsl q6 rfl (by decide) ?_
    repeat (first | refine WL.nil ?_ | refine WL.auto (h := ?_) | refine WL.gskip rfl rfl rfl rfl ?_ | refine WL.gauto (h := ?_) | (refine CW.seq ?_; intro K hK) | refine CW.block ?_ | refine CW.region ?_ | refine CW.skip ?_ | refine CW.exit ?_ | refine CW.ret ?_ | (refine thn_ret (K := K) ?_; clear hK K) | refine thn_ret ?_ | refine blk_ret ?_ | (refine thn_exit (K := K) ?_; clear hK K) | refine thn_exit ?_ | refine blk_here ?_ | refine blk_past rfl ?_ | refine thn_norm ?_ | refine blk_norm ?_ | refine CW.condT rfl ?_ | refine CW.condF rfl ?_ | (refine hK _ _ ?_; clear hK K))
    first | refine WL.step rfl ?_ | refine WL.gstep rfl rfl rfl rfl ?_
    refine OpW.alloc (fun b3 w3 n3 => ?_)
    repeat (first | refine WL.nil ?_ | refine WL.auto (h := ?_) | refine WL.gskip rfl rfl rfl rfl ?_ | refine WL.gauto (h := ?_) | (refine CW.seq ?_; intro K hK) | refine CW.block ?_ | refine CW.region ?_ | refine CW.skip ?_ | refine CW.exit ?_ | refine CW.ret ?_ | (refine thn_ret (K := K) ?_; clear hK K) | refine thn_ret ?_ | refine blk_ret ?_ | (refine thn_exit (K := K) ?_; clear hK K) | refine thn_exit ?_ | refine blk_here ?_ | refine blk_past rfl ?_ | refine thn_norm ?_ | refine blk_norm ?_ | refine CW.condT rfl ?_ | refine CW.condF rfl ?_ | (refine hK _ _ ?_; clear hK K))
    refine WL.step0 ?_
    refine OpW.storeAll rfl rfl rfl n3.blk rfl rfl (fun w4 p4 hb => ?_)
    have g4 : Grow w2 w4 := n3.grow.chgNew p4.chg (fun i hi h => by subst h; have := n3.fresh; omega)
    repeat (first | refine WL.nil ?_ | refine WL.auto (h := ?_) | refine WL.gskip rfl rfl rfl rfl ?_ | refine WL.gauto (h := ?_) | (refine CW.seq ?_; intro K hK) | refine CW.block ?_ | refine CW.region ?_ | refine CW.skip ?_ | refine CW.exit ?_ | refine CW.ret ?_ | (refine thn_ret (K := K) ?_; clear hK K) | refine thn_ret ?_ | refine blk_ret ?_ | (refine thn_exit (K := K) ?_; clear hK K) | refine thn_exit ?_ | refine blk_here ?_ | refine blk_past rfl ?_ | refine thn_norm ?_ | refine blk_norm ?_ | refine CW.condT rfl ?_ | refine CW.condF rfl ?_ | (refine hK _ _ ?_; clear hK K))
    exact hJ (d.files.length - (k + 1)) _ _ (by omega) ⟨k + 1, by omega, rfl, g2.then g4, rep4 (congrArg (Value.int .i64) (by rw [hsn])) rfl rfl (congrArg (Value.int .i64) (by omega))⟩
  · obtain rfl : k = d.files.length := by omega
    rw [List.take_length]
    repeat (first | refine WL.nil ?_ | refine WL.auto (h := ?_) | refine WL.gskip rfl rfl rfl rfl ?_ | refine WL.gauto (h := ?_) | (refine CW.seq ?_; intro K hK) | refine CW.block ?_ | refine CW.region ?_ | refine CW.skip ?_ | refine CW.exit ?_ | refine CW.ret ?_ | (refine thn_ret (K := K) ?_; clear hK K) | refine thn_ret ?_ | refine blk_ret ?_ | (refine thn_exit (K := K) ?_; clear hK K) | refine thn_exit ?_ | refine blk_here ?_ | refine blk_past rfl ?_ | refine thn_norm ?_ | refine blk_norm ?_ | refine CW.condT rfl ?_ | refine CW.condF rfl ?_ | (refine hK _ _ ?_; clear hK K))
    exact out1 Try.results58 rfl ⟨g2, rfl⟩ (Or.inr rfl)
end B
end Go.Proofs.Ytlofcomnhecgfaa
/- Append, Sync, Truncate, Read of the document's disk. Sizes are bounded. -/
namespace Go.Proofs.Ytlofcomnhecgfaa
namespace B
attribute [local irreducible] OpW WL CW Ret Sl Blk thn blk outOf
set_option linter.unusedVariables false
set_option linter.unusedSimpArgs false
set_option maxRecDepth 4000

theorem begin_off {d : PD} (h : d.off = true) : d.begin = (false, 51, d) := by unfold PD.begin; rw [if_pos h]
theorem ixInt_neg {o : Option Nat} : decide (ixInt o < 0) = o.isNone := by
  cases o with
  | none => rfl
  | some i => exact decide_eq_false (by show ¬ ((i : Int) < 0); omega)
theorem ix_get {d : PD} {s : List UInt8} {i : Nat} (h : d.ix s = some i) : ∃ f, d.files[i]? = some f ∧ f.name = s := by
  unfold PD.ix at h
  rw [List.findIdx?_eq_some_iff_getElem] at h
  obtain ⟨hl, h1, _⟩ := h
  exact ⟨_, List.getElem?_eq_getElem hl, by simpa using h1⟩

theorem rsync84 (tag : Nat → Tag) (mb : Nat) (RA : Option Addr) (rcap : Nat) (cells : List Value) (d : PD) (s : List UInt8) (w : World) (h : RefAt tag w mb RA rcap cells d) (ha : d.armed ≤ 9223372036854775807) (hn : d.files.length ≤ 16) :
    Ret Try.prog 84 #[.pointer (some ⟨mb, 0, none⟩), .string (bstr s)] w fun v w' => v = .int .i64 (d.sync s).1 ∧ RefRep tag w' mb (d.sync s).2 ∧ Chg (fun b => (tag b).ref = true) w w' := by
  have hb := h.blk
  refine Ret.enter (fn := Try.f84) (N := 35) Try.func84 rfl Try.ntmps84 rfl ?_
  repeat (first | refine WL.nil ?_ | refine WL.auto (h := ?_) | refine WL.gskip rfl rfl rfl rfl ?_ | refine WL.gauto (h := ?_) | (refine CW.seq ?_; intro K hK) | refine CW.block ?_ | refine CW.region ?_ | refine CW.skip ?_ | refine CW.exit ?_ | refine CW.ret ?_ | (refine thn_ret (K := K) ?_; clear hK K) | refine thn_ret ?_ | refine blk_ret ?_ | (refine thn_exit (K := K) ?_; clear hK K) | refine thn_exit ?_ | refine blk_here ?_ | refine blk_past rfl ?_ | refine thn_norm ?_ | refine blk_norm ?_ | refine CW.condT rfl ?_ | refine CW.condF rfl ?_ | (refine hK _ _ ?_; clear hK K))
  cases ho : d.off with
  | true =>
    have e1 : d.sync s = (51, d) := by unfold PD.sync; rw [begin_off ho]; rfl
    repeat (first | refine WL.nil ?_ | refine WL.auto (h := ?_) | refine WL.gskip rfl rfl rfl rfl ?_ | refine WL.gskipU rfl rfl rfl rfl ?_ | refine WL.gauto (h := ?_) | (refine CW.seq ?_; intro K hK) | refine CW.block ?_ | refine CW.region ?_ | refine CW.skip ?_ | refine CW.exit ?_ | refine CW.ret ?_ | (refine thn_ret (K := K) ?_; clear hK K) | refine thn_ret ?_ | refine blk_ret ?_ | (refine thn_exit (K := K) ?_; clear hK K) | refine thn_exit ?_ | refine blk_here ?_ | refine blk_past rfl ?_ | refine thn_norm ?_ | refine blk_norm ?_ | refine CW.condT rfl ?_ | refine CW.condF rfl ?_ | (refine hK _ _ ?_; clear hK K))
    refine out1 (v := .int .i64 51) Try.results84 rfl ?_ (Or.inr rfl)
    rw [e1]
    exact ⟨rfl, ⟨_, _, _, h⟩, Chg.refl _ _⟩
  | false =>
    repeat (first | refine WL.nil ?_ | refine WL.auto (h := ?_) | refine WL.gskip rfl rfl rfl rfl ?_ | refine WL.gskipU rfl rfl rfl rfl ?_ | refine WL.gauto (h := ?_) | (refine CW.seq ?_; intro K hK) | refine CW.block ?_ | refine CW.region ?_ | refine CW.skip ?_ | refine CW.exit ?_ | refine CW.ret ?_ | (refine thn_ret (K := K) ?_; clear hK K) | refine thn_ret ?_ | refine blk_ret ?_ | (refine thn_exit (K := K) ?_; clear hK K) | refine thn_exit ?_ | refine blk_here ?_ | refine blk_past rfl ?_ | refine thn_norm ?_ | refine blk_norm ?_ | refine CW.condT rfl ?_ | refine CW.condF rfl ?_ | (refine hK _ _ ?_; clear hK K))
    first | refine WL.step rfl ?_ | refine WL.gstep rfl rfl rfl rfl ?_
    refine OpW.call ((goes102 tag mb RA rcap cells d w h ha ho).mono ?_) rfl
    rintro v w1 ⟨rfl, k1, k2, h1, c1⟩
    have hf1 := begin_files d
    have t1 := h.toRef c1
    generalize hbg : d.begin = r at *
    obtain ⟨dn, e, d1⟩ := r
    simp only at h1 hf1 k1 k2
    rcases k2 with rfl | rfl
    · repeat (first | refine WL.nil ?_ | refine WL.auto (h := ?_) | refine WL.gskip rfl rfl rfl rfl ?_ | refine WL.gskipU rfl rfl rfl rfl ?_ | refine WL.gauto (h := ?_) | (refine CW.seq ?_; intro K hK) | refine CW.block ?_ | refine CW.region ?_ | refine CW.skip ?_ | refine CW.exit ?_ | refine CW.ret ?_ | (refine thn_ret (K := K) ?_; clear hK K) | refine thn_ret ?_ | refine blk_ret ?_ | (refine thn_exit (K := K) ?_; clear hK K) | refine thn_exit ?_ | refine blk_here ?_ | refine blk_past rfl ?_ | refine thn_norm ?_ | refine blk_norm ?_ | refine CW.condT rfl ?_ | refine CW.condF rfl ?_ | (refine hK _ _ ?_; clear hK K))
      first | refine WL.step rfl ?_ | refine WL.gstep rfl rfl rfl rfl ?_
      refine OpW.call ((find75 tag mb RA rcap cells d1 s w1 h1 (by rw [hf1]; omega)).mono ?_) rfl
      rintro v w2 ⟨g2, rfl⟩
      have h2 := h1.grow g2
      have hb2 := h2.blk
      repeat (first | refine WL.nil ?_ | refine WL.auto (h := ?_) | refine WL.gskip rfl rfl rfl rfl ?_ | refine WL.gskipU rfl rfl rfl rfl ?_ | refine WL.gauto (h := ?_) | (refine CW.seq ?_; intro K hK) | refine CW.block ?_ | refine CW.region ?_ | refine CW.skip ?_ | refine CW.exit ?_ | refine CW.ret ?_ | (refine thn_ret (K := K) ?_; clear hK K) | refine thn_ret ?_ | refine blk_ret ?_ | (refine thn_exit (K := K) ?_; clear hK K) | refine thn_exit ?_ | refine blk_here ?_ | refine blk_past rfl ?_ | refine thn_norm ?_ | refine blk_norm ?_ | refine CW.condT rfl ?_ | refine CW.condF rfl ?_ | (refine hK _ _ ?_; clear hK K))
      rw [ixInt_neg]
      cases hx : d1.ix s with
      | none =>
        have e1 : d.sync s = (50, d1) := by unfold PD.sync; rw [hbg]; simp only; rw [if_neg (by simp), hx]
        repeat (first | refine WL.nil ?_ | refine WL.auto (h := ?_) | refine WL.gskip rfl rfl rfl rfl ?_ | refine WL.gskipU rfl rfl rfl rfl ?_ | refine WL.gauto (h := ?_) | (refine CW.seq ?_; intro K hK) | refine CW.block ?_ | refine CW.region ?_ | refine CW.skip ?_ | refine CW.exit ?_ | refine CW.ret ?_ | (refine thn_ret (K := K) ?_; clear hK K) | refine thn_ret ?_ | refine blk_ret ?_ | (refine thn_exit (K := K) ?_; clear hK K) | refine thn_exit ?_ | refine blk_here ?_ | refine blk_past rfl ?_ | refine thn_norm ?_ | refine blk_norm ?_ | refine CW.condT rfl ?_ | refine CW.condF rfl ?_ | (refine hK _ _ ?_; clear hK K))
        refine out1 (v := .int .i64 50) Try.results84 rfl ?_ (Or.inr rfl)
        rw [e1]
        exact ⟨rfl, ⟨_, _, _, h2⟩, t1.grow g2⟩
      | some i =>
        obtain ⟨f, hi, hname⟩ := ix_get hx
        have e1 : d.sync s = (0, { d1 with files := d1.files.set i { f with safe := f.data.length } }) := by
          unfold PD.sync; rw [hbg]; simp only; rw [if_neg (by simp), hx]
          show ((0 : Int), ({ d1 with files := d1.files.modify i fun f => { f with safe := f.data.length } } : PD)) = _
          rw [modify_set hi]
        obtain ⟨DA, cap, q0, q1, q2, q3, q4, q5, q6⟩ := h2.at_ hi
        have hsl := h2.own.sl
        have hil := (List.getElem?_eq_some_iff.1 hi).1
        repeat (first | refine WL.nil ?_ | refine WL.auto (h := ?_) | refine WL.gskip rfl rfl rfl rfl ?_ | refine WL.gskipU rfl rfl rfl rfl ?_ | refine WL.gauto (h := ?_) | (refine CW.seq ?_; intro K hK) | refine CW.block ?_ | refine CW.region ?_ | refine CW.skip ?_ | refine CW.exit ?_ | refine CW.ret ?_ | (refine thn_ret (K := K) ?_; clear hK K) | refine thn_ret ?_ | refine blk_ret ?_ | (refine thn_exit (K := K) ?_; clear hK K) | refine thn_exit ?_ | refine blk_here ?_ | refine blk_past rfl ?_ | refine thn_norm ?_ | refine blk_norm ?_ | refine CW.condT rfl ?_ | refine CW.condF rfl ?_ | (refine hK _ _ ?_; clear hK K))
        refine CW.held2 16 (fun _ => False) (fun b => ∃ a, RA = some a ∧ a.block = b) (.take 0 (.take 1 (.take 2 (.take 3 (.take 4 (.take 5 (.take 6 (.take 7 (.take 8 (.take 9 (.take 10 (.take 11 (.take 12 (.take 13 (.take 14 (.take 15 (.one 16 .nil))))))))))))))))) (fun _ h => h.elim) rfl (by kernel_rfl) (by kernel_rfl) (fun w3 g3 => ?_)
        repeat (first | refine AL2.autoU (hn := ?_) | refine AL2.auto (hn := ?_) | refine AL2.gskip rfl rfl rfl rfl rfl ?_ | refine AL2.goneSkip rfl rfl rfl rfl rfl rfl ?_ | refine AL2.gskipU rfl rfl rfl rfl rfl ?_ | refine AL2.goneSkipU rfl rfl rfl rfl rfl rfl ?_ | refine AL2.gautoU (hn := ?_) | refine AL2.gauto (hn := ?_) | refine AL2.oauto (hn := ?_))
        refine AL2.takeU rfl rfl rfl (fun w hg => OpW.indexAddr i rfl rfl rfl hil q4 q5 ⟨rfl, rfl⟩) ?_
        repeat (first | refine AL2.autoU (hn := ?_) | refine AL2.auto (hn := ?_) | refine AL2.gskip rfl rfl rfl rfl rfl ?_ | refine AL2.goneSkip rfl rfl rfl rfl rfl rfl ?_ | refine AL2.gskipU rfl rfl rfl rfl rfl ?_ | refine AL2.goneSkipU rfl rfl rfl rfl rfl rfl ?_ | refine AL2.gautoU (hn := ?_) | refine AL2.gauto (hn := ?_) | refine AL2.oauto (hn := ?_))
        refine AL2.takeU rfl rfl rfl (fun w hg => OpW.indexAddr i rfl rfl rfl hil q4 q5 ⟨rfl, rfl⟩) ?_
        repeat (first | refine AL2.autoU (hn := ?_) | refine AL2.auto (hn := ?_) | refine AL2.gskip rfl rfl rfl rfl rfl ?_ | refine AL2.goneSkip rfl rfl rfl rfl rfl rfl ?_ | refine AL2.gskipU rfl rfl rfl rfl rfl ?_ | refine AL2.goneSkipU rfl rfl rfl rfl rfl rfl ?_ | refine AL2.gautoU (hn := ?_) | refine AL2.gauto (hn := ?_) | refine AL2.oauto (hn := ?_))
        refine AL2.last0 rfl rfl ?_
        refine OpW.storeOwnK (q := i * 3 + 2) (v := .int .i64 f.data.length) rfl rfl rfl (h2.own.grow g3) (by omega) (fun w4 o4 c4 _ => ⟨fun h => (h.mono fun k _ hk => hk.elim).andThen c4, ?_⟩)
        repeat (first | refine AL.nil ?_ | refine AL.auto (hn := ?_) | refine AL.gskip rfl rfl rfl rfl rfl ?_ | refine AL.goneSkip rfl rfl rfl rfl rfl ?_ | refine AL.gauto (hn := ?_) | refine AL.oauto (hn := ?_))
        repeat (first | refine WL.nil ?_ | refine WL.auto (h := ?_) | refine WL.gskip rfl rfl rfl rfl ?_ | refine WL.gauto (h := ?_) | (refine CW.seq ?_; intro K hK) | refine CW.block ?_ | refine CW.region ?_ | refine CW.skip ?_ | refine CW.exit ?_ | refine CW.ret ?_ | (refine thn_ret (K := K) ?_; clear hK K) | refine thn_ret ?_ | refine blk_ret ?_ | (refine thn_exit (K := K) ?_; clear hK K) | refine thn_exit ?_ | refine blk_here ?_ | refine blk_past rfl ?_ | refine thn_norm ?_ | refine blk_norm ?_ | refine CW.condT rfl ?_ | refine CW.condF rfl ?_ | (refine hK _ _ ?_; clear hK K))
        refine out1 (v := .int .i64 0) Try.results84 rfl ?_ (Or.inr rfl)
        rw [e1]
        have C24 := Grow.chg g3 c4
        refine ⟨rfl, ⟨RA, rcap, _, h2.setFile (c := 2) (DA := DA) (cap := cap) hi C24 (fun b hb => Or.inl hb) (by decide) o4 (by rw [q6]; rfl) (q3.keep C24 ?_)⟩, (t1.grow g2).andThen (C24.mono fun k _ hk => ?_)⟩
        · rintro b hb ⟨a, ha, rfl⟩
          rw [(h2.own.in_ ha).1] at hb; cases hb
        · obtain ⟨a, ha, rfl⟩ := hk
          rw [(h2.own.in_ ha).1]; rfl
    · have e1 : d.sync s = (51, d1) := by unfold PD.sync; rw [hbg]; simp only; rw [if_pos (by simp)]
      repeat (first | refine WL.nil ?_ | refine WL.auto (h := ?_) | refine WL.gskip rfl rfl rfl rfl ?_ | refine WL.gskipU rfl rfl rfl rfl ?_ | refine WL.gauto (h := ?_) | (refine CW.seq ?_; intro K hK) | refine CW.block ?_ | refine CW.region ?_ | refine CW.skip ?_ | refine CW.exit ?_ | refine CW.ret ?_ | (refine thn_ret (K := K) ?_; clear hK K) | refine thn_ret ?_ | refine blk_ret ?_ | (refine thn_exit (K := K) ?_; clear hK K) | refine thn_exit ?_ | refine blk_here ?_ | refine blk_past rfl ?_ | refine thn_norm ?_ | refine blk_norm ?_ | refine CW.condT rfl ?_ | refine CW.condF rfl ?_ | (refine hK _ _ ?_; clear hK K))
      refine out1 (v := .int .i64 51) Try.results84 rfl ?_ (Or.inr rfl)
      rw [e1]
      exact ⟨rfl, ⟨_, _, _, h1⟩, t1⟩

theorem rread86 (tag : Nat → Tag) (mb : Nat) (RA : Option Addr) (rcap : Nat) (cells : List Value) (d : PD) (s : List UInt8) (w : World) (h : RefAt tag w mb RA rcap cells d) (hn : d.files.length ≤ 16) (hd : ∀ f ∈ d.files, f.data.length ≤ 1099511627776) :
    Ret Try.prog 86 #[.pointer (some ⟨mb, 0, none⟩), .string (bstr s)] w fun v w' => Grow w w' ∧ ∃ A cap, v = .tuple #[.slice A (d.read s).1.length cap, .int .i64 (d.read s).2] ∧ Own w' A 5 1 (d.read s).1.length cap (bvs (d.read s).1) (fresh w) := by
  have hb := h.blk
  refine Ret.enter (fn := Try.f86) (N := 26) Try.func86 rfl Try.ntmps86 rfl ?_
  repeat (first | refine WL.nil ?_ | refine WL.auto (h := ?_) | refine WL.gskip rfl rfl rfl rfl ?_ | refine WL.gauto (h := ?_) | (refine CW.seq ?_; intro K hK) | refine CW.block ?_ | refine CW.region ?_ | refine CW.skip ?_ | refine CW.exit ?_ | refine CW.ret ?_ | (refine thn_ret (K := K) ?_; clear hK K) | refine thn_ret ?_ | refine blk_ret ?_ | (refine thn_exit (K := K) ?_; clear hK K) | refine thn_exit ?_ | refine blk_here ?_ | refine blk_past rfl ?_ | refine thn_norm ?_ | refine blk_norm ?_ | refine CW.condT rfl ?_ | refine CW.condF rfl ?_ | (refine hK _ _ ?_; clear hK K))
  refine CW.cond rfl (fun h1 => ?_) (fun h1 => ?_)
  · have e1 : d.read s = ([], 51) := by unfold PD.read; rw [if_pos h1]
    repeat (first | refine WL.nil ?_ | refine WL.auto (h := ?_) | refine WL.gskip rfl rfl rfl rfl ?_ | refine WL.gauto (h := ?_) | (refine CW.seq ?_; intro K hK) | refine CW.block ?_ | refine CW.region ?_ | refine CW.skip ?_ | refine CW.exit ?_ | refine CW.ret ?_ | (refine thn_ret (K := K) ?_; clear hK K) | refine thn_ret ?_ | refine blk_ret ?_ | (refine thn_exit (K := K) ?_; clear hK K) | refine thn_exit ?_ | refine blk_here ?_ | refine blk_past rfl ?_ | refine thn_norm ?_ | refine blk_norm ?_ | refine CW.condT rfl ?_ | refine CW.condF rfl ?_ | (refine hK _ _ ?_; clear hK K))
    refine out2 (v1 := .slice none 0 0) (v2 := .int .i64 51) Try.results86 rfl rfl ?_ (Or.inr rfl)
    rw [e1]
    exact ⟨Chg.refl _ _, none, 0, rfl, Own.nil _ _ _ _⟩
  repeat (first | refine WL.nil ?_ | refine WL.auto (h := ?_) | refine WL.gskip rfl rfl rfl rfl ?_ | refine WL.gauto (h := ?_) | (refine CW.seq ?_; intro K hK) | refine CW.block ?_ | refine CW.region ?_ | refine CW.skip ?_ | refine CW.exit ?_ | refine CW.ret ?_ | (refine thn_ret (K := K) ?_; clear hK K) | refine thn_ret ?_ | refine blk_ret ?_ | (refine thn_exit (K := K) ?_; clear hK K) | refine thn_exit ?_ | refine blk_here ?_ | refine blk_past rfl ?_ | refine thn_norm ?_ | refine blk_norm ?_ | refine CW.condT rfl ?_ | refine CW.condF rfl ?_ | (refine hK _ _ ?_; clear hK K))
  first | refine WL.step rfl ?_ | refine WL.gstep rfl rfl rfl rfl ?_
  refine OpW.call ((find75 tag mb RA rcap cells d s w h (by omega)).mono ?_) rfl
  rintro v w2 ⟨g2, rfl⟩
  have h2 := h.grow g2
  repeat (first | refine WL.nil ?_ | refine WL.auto (h := ?_) | refine WL.gskip rfl rfl rfl rfl ?_ | refine WL.gauto (h := ?_) | (refine CW.seq ?_; intro K hK) | refine CW.block ?_ | refine CW.region ?_ | refine CW.skip ?_ | refine CW.exit ?_ | refine CW.ret ?_ | (refine thn_ret (K := K) ?_; clear hK K) | refine thn_ret ?_ | refine blk_ret ?_ | (refine thn_exit (K := K) ?_; clear hK K) | refine thn_exit ?_ | refine blk_here ?_ | refine blk_past rfl ?_ | refine thn_norm ?_ | refine blk_norm ?_ | refine CW.condT rfl ?_ | refine CW.condF rfl ?_ | (refine hK _ _ ?_; clear hK K))
  rw [ixInt_neg]
  cases hx : d.ix s with
  | none =>
    have e1 : d.read s = ([], 50) := by unfold PD.read; rw [if_neg (by simp [h1]), hx]
    repeat (first | refine WL.nil ?_ | refine WL.auto (h := ?_) | refine WL.gskip rfl rfl rfl rfl ?_ | refine WL.gauto (h := ?_) | (refine CW.seq ?_; intro K hK) | refine CW.block ?_ | refine CW.region ?_ | refine CW.skip ?_ | refine CW.exit ?_ | refine CW.ret ?_ | (refine thn_ret (K := K) ?_; clear hK K) | refine thn_ret ?_ | refine blk_ret ?_ | (refine thn_exit (K := K) ?_; clear hK K) | refine thn_exit ?_ | refine blk_here ?_ | refine blk_past rfl ?_ | refine thn_norm ?_ | refine blk_norm ?_ | refine CW.condT rfl ?_ | refine CW.condF rfl ?_ | (refine hK _ _ ?_; clear hK K))
    refine out2 (v1 := .slice none 0 0) (v2 := .int .i64 50) Try.results86 rfl rfl ?_ (Or.inr rfl)
    rw [e1]
    exact ⟨g2, none, 0, rfl, Own.nil _ _ _ _⟩
  | some i =>
    obtain ⟨f, hi, hname⟩ := ix_get hx
    have e1 : d.read s = (f.data, 0) := by unfold PD.read; rw [if_neg (by simp [h1]), hx]; simp [hi]
    have hil := (List.getElem?_eq_some_iff.1 hi).1
    have hfl := hd f (List.mem_of_getElem? hi)
    repeat (first | refine WL.nil ?_ | refine WL.auto (h := ?_) | refine WL.gskip rfl rfl rfl rfl ?_ | refine WL.gauto (h := ?_) | (refine CW.seq ?_; intro K hK) | refine CW.block ?_ | refine CW.region ?_ | refine CW.skip ?_ | refine CW.exit ?_ | refine CW.ret ?_ | (refine thn_ret (K := K) ?_; clear hK K) | refine thn_ret ?_ | refine blk_ret ?_ | (refine thn_exit (K := K) ?_; clear hK K) | refine thn_exit ?_ | refine blk_here ?_ | refine blk_past rfl ?_ | refine thn_norm ?_ | refine blk_norm ?_ | refine CW.condT rfl ?_ | refine CW.condF rfl ?_ | (refine hK _ _ ?_; clear hK K))
    first | refine WL.step rfl ?_ | refine WL.gstep rfl rfl rfl rfl ?_
    refine OpW.buildNone (fun b3 w3 n3 => ?_)
    have h3 := h2.grow n3.grow
    have hb3 := h3.blk
    obtain ⟨DA, cap, q0, q1, q2, q3, q4, q5, q6⟩ := h3.at_ hi
    have hsl := h3.own.sl
    repeat (first | refine WL.nil ?_ | refine WL.auto (h := ?_) | refine WL.gskip rfl rfl rfl rfl ?_ | refine WL.gauto (h := ?_) | (refine CW.seq ?_; intro K hK) | refine CW.block ?_ | refine CW.region ?_ | refine CW.skip ?_ | refine CW.exit ?_ | refine CW.ret ?_ | (refine thn_ret (K := K) ?_; clear hK K) | refine thn_ret ?_ | refine blk_ret ?_ | (refine thn_exit (K := K) ?_; clear hK K) | refine thn_exit ?_ | refine blk_here ?_ | refine blk_past rfl ?_ | refine thn_norm ?_ | refine blk_norm ?_ | refine CW.condT rfl ?_ | refine CW.condF rfl ?_ | (refine hK _ _ ?_; clear hK K))
    first | refine WL.step rfl ?_ | refine WL.gstep rfl rfl rfl rfl ?_
    refine OpW.indexAddr i rfl rfl rfl hil q4 q5 ?_
    repeat (first | refine WL.nil ?_ | refine WL.auto (h := ?_) | refine WL.gskip rfl rfl rfl rfl ?_ | refine WL.gauto (h := ?_) | (refine CW.seq ?_; intro K hK) | refine CW.block ?_ | refine CW.region ?_ | refine CW.skip ?_ | refine CW.exit ?_ | refine CW.ret ?_ | (refine thn_ret (K := K) ?_; clear hK K) | refine thn_ret ?_ | refine blk_ret ?_ | (refine thn_exit (K := K) ?_; clear hK K) | refine thn_exit ?_ | refine blk_here ?_ | refine blk_past rfl ?_ | refine thn_norm ?_ | refine blk_norm ?_ | refine CW.condT rfl ?_ | refine CW.condF rfl ?_ | (refine hK _ _ ?_; clear hK K))
    first | refine WL.step rfl ?_ | refine WL.gstep rfl rfl rfl rfl ?_
    refine OpW.appB (w0 := w2) (l := []) (m := f.data) rfl rfl rfl rfl rfl rfl (Own.empty n3) q3.sl n3.grow (by simp; omega) (fun A7 c7 w7 o7 g7 _ => ?_)
    rw [List.nil_append] at o7 ⊢
    repeat (first | refine WL.nil ?_ | refine WL.auto (h := ?_) | refine WL.gskip rfl rfl rfl rfl ?_ | refine WL.gauto (h := ?_) | (refine CW.seq ?_; intro K hK) | refine CW.block ?_ | refine CW.region ?_ | refine CW.skip ?_ | refine CW.exit ?_ | refine CW.ret ?_ | (refine thn_ret (K := K) ?_; clear hK K) | refine thn_ret ?_ | refine blk_ret ?_ | (refine thn_exit (K := K) ?_; clear hK K) | refine thn_exit ?_ | refine blk_here ?_ | refine blk_past rfl ?_ | refine thn_norm ?_ | refine blk_norm ?_ | refine CW.condT rfl ?_ | refine CW.condF rfl ?_ | (refine hK _ _ ?_; clear hK K))
    refine out2 (v1 := .slice A7 f.data.length c7) (v2 := .int .i64 0) Try.results86 rfl rfl ?_ (Or.inr rfl)
    rw [e1]
    exact ⟨g2.then g7, A7, c7, rfl, o7.mono fun k hk => fresh_mono g2 k hk⟩

theorem K_of' {K : Env → World → Prop} {f : Env → Env} {E : Env} {w : World} (key : ∀ e0, K (f e0) w) (h : ∃ e0, E = f e0) : K E w := by
  obtain ⟨e0, rfl⟩ := h
  exact key e0
/-- What an append does to a disk whose power is on. -/
def PD.add (d : PD) (s b : List UInt8) : Int × PD :=
  match d.ix s with
  | none => if rightName s = false ∨ 16 ≤ d.files.length then (50, d) else (0, { d with files := d.files ++ [⟨s, b, 0⟩] })
  | some i => (0, { d with files := d.files.modify i fun f => { f with data := f.data ++ b } })
theorem set_snoc (l : List PF) (f g : PF) : (l ++ [f]).set l.length g = l ++ [g] := by
  induction l with
  | nil => rfl
  | cons x l ih => simp [ih]
theorem radd103 (tag : Nat → Tag) (mb : Nat) (d : PD) (s b : List UInt8) (B : Option Addr) (bcap : Nat) (w : World) (h : RefRep tag w mb d) (hn : d.files.length ≤ 16) (hs : s.length ≤ 1099511627776)
    (hb : Sl w B (bvs b)) (hB : b ≠ [] → ∀ a, B = some a → (tag a.block).ref = false) (hbl : b.length ≤ 1099511627776) (hd : ∀ f ∈ d.files, f.data.length ≤ 1099511627776) :
    Ret Try.prog 103 #[.pointer (some ⟨mb, 0, none⟩), .string (bstr s), .slice B b.length bcap] w fun v w' => v = .int .i64 (d.add s b).1 ∧ WentR tag w w' mb (d.add s b).2 := by
  obtain ⟨RA, rcap, cells, h⟩ := h
  refine Ret.enter (fn := Try.f103) (N := 58) Try.func103 rfl Try.ntmps103 rfl ?_
  repeat (first | refine WL.nil ?_ | refine WL.auto (h := ?_) | refine WL.gskip rfl rfl rfl rfl ?_ | refine WL.gauto (h := ?_) | (refine CW.seq ?_; intro K hK) | refine CW.block ?_ | refine CW.region ?_ | refine CW.skip ?_ | refine CW.exit ?_ | refine CW.ret ?_ | (refine thn_ret (K := K) ?_; clear hK K) | refine thn_ret ?_ | refine blk_ret ?_ | (refine thn_exit (K := K) ?_; clear hK K) | refine thn_exit ?_ | refine blk_here ?_ | refine blk_past rfl ?_ | refine thn_norm ?_ | refine blk_norm ?_ | refine CW.condT rfl ?_ | refine CW.condF rfl ?_ | (refine hK _ _ ?_; clear hK K))
  first | refine WL.step rfl ?_ | refine WL.gstep rfl rfl rfl rfl ?_
  refine OpW.call ((find75 tag mb RA rcap cells d s w h (by omega)).mono ?_) rfl
  rintro v w2 ⟨g2, rfl⟩
  have h2 := h.grow g2
  have hb2 := hb.grow g2
  repeat (first | refine WL.nil ?_ | refine WL.auto (h := ?_) | refine WL.gskip rfl rfl rfl rfl ?_ | refine WL.gauto (h := ?_) | (refine CW.seq ?_; intro K hK) | refine CW.block ?_ | refine CW.region ?_ | refine CW.skip ?_ | refine CW.exit ?_ | refine CW.ret ?_ | (refine thn_ret (K := K) ?_; clear hK K) | refine thn_ret ?_ | refine blk_ret ?_ | (refine thn_exit (K := K) ?_; clear hK K) | refine thn_exit ?_ | refine blk_here ?_ | refine blk_past rfl ?_ | refine thn_norm ?_ | refine blk_norm ?_ | refine CW.condT rfl ?_ | refine CW.condF rfl ?_ | (refine hK _ _ ?_; clear hK K))
  rw [ixInt_neg]
  have key : ∀ (tag' : Nat → Tag) (w3 : World) (RA' : Option Addr) (rcap' : Nat) (cells' : List Value) (d' : PD) (i : Nat) (f : PF), (∀ k, k < w2.heap.size → tag' k = tag k) → Chg (fun b => (tag b).ref = true) w2 w3 → RefAt tag' w3 mb RA' rcap' cells' d' → d'.files[i]? = some f → f.data.length ≤ 1099511627776 → Sl w3 B (bvs b) → d.add s b = (0, { d' with files := d'.files.set i { f with data := f.data ++ b } }) →
      ∀ e0, K (upd (upd (upd e0 0 (.pointer (some ⟨mb, 0, none⟩))) 2 (.slice B b.length bcap)) 7 (.int .i64 i)) w3 := by
    intro tag' w3 RA' rcap' cells' d' i f ht hC h3 hi hfl hb3 hadd e0
    refine hK _ _ ?_
    clear hK
    have hbk := h3.blk
    have hil := (List.getElem?_eq_some_iff.1 hi).1
    obtain ⟨DA, cap, q0, q1, q2, q3, q4, q5, q6⟩ := h3.at_ hi
    have hsl := h3.own.sl
    have hnm : ¬ (∃ a, DA = some a ∧ a.block = mb) := by
      rintro ⟨a, ha, e⟩
      have := (q3.in_ ha).1
      rw [e, h3.tg] at this; cases this
    have hnr : ∀ a, RA' = some a → ¬ (∃ a', DA = some a' ∧ a'.block = a.block) := by
      rintro a ha ⟨a', ha', e⟩
      have h7 := (q3.in_ ha').1
      rw [e, (h3.own.in_ ha).1] at h7; cases h7
    repeat (first | refine WL.nil ?_ | refine WL.auto (h := ?_) | refine WL.gskip rfl rfl rfl rfl ?_ | refine WL.gauto (h := ?_) | (refine CW.seq ?_; intro K hK) | refine CW.block ?_ | refine CW.region ?_ | refine CW.skip ?_ | refine CW.exit ?_ | refine CW.ret ?_ | (refine thn_ret (K := K) ?_; clear hK K) | refine thn_ret ?_ | refine blk_ret ?_ | (refine thn_exit (K := K) ?_; clear hK K) | refine thn_exit ?_ | refine blk_here ?_ | refine blk_past rfl ?_ | refine thn_norm ?_ | refine blk_norm ?_ | refine CW.condT rfl ?_ | refine CW.condF rfl ?_ | (refine hK _ _ ?_; clear hK K))
    refine CW.held2 17 (fun b => ∃ a, DA = some a ∧ a.block = b) (fun b => (∃ a, DA = some a ∧ a.block = b) ∨ ∃ a, RA' = some a ∧ a.block = b) (.take 0 (.take 1 (.take 2 (.take 3 (.take 4 (.take 5 (.take 6 (.take 7 (.take 8 (.take 9 (.take 10 (.take 11 (.take 12 (.take 13 (.one 14 (.take 15 (.take 16 (.one 17 .nil)))))))))))))))))) (fun _ h => Or.inl h) rfl (by kernel_rfl) (by kernel_rfl) (fun w4 g4 => ?_)
    repeat (first | refine AL2.autoU (hn := ?_) | refine AL2.auto (hn := ?_) | refine AL2.gskip rfl rfl rfl rfl rfl ?_ | refine AL2.goneSkip rfl rfl rfl rfl rfl rfl ?_ | refine AL2.gskipU rfl rfl rfl rfl rfl ?_ | refine AL2.goneSkipU rfl rfl rfl rfl rfl rfl ?_ | refine AL2.gautoU (hn := ?_) | refine AL2.gauto (hn := ?_) | refine AL2.oauto (hn := ?_))
    refine AL2.takeU rfl rfl rfl (fun w hg => OpW.indexAddr i rfl rfl rfl hil q4 q5 ⟨rfl, rfl⟩) ?_
    repeat (first | refine AL2.autoU (hn := ?_) | refine AL2.auto (hn := ?_) | refine AL2.gskip rfl rfl rfl rfl rfl ?_ | refine AL2.goneSkip rfl rfl rfl rfl rfl rfl ?_ | refine AL2.gskipU rfl rfl rfl rfl rfl ?_ | refine AL2.goneSkipU rfl rfl rfl rfl rfl rfl ?_ | refine AL2.gautoU (hn := ?_) | refine AL2.gauto (hn := ?_) | refine AL2.oauto (hn := ?_))
    first | refine AL2.one rfl rfl rfl ?_ | refine AL2.gone rfl rfl rfl rfl rfl rfl ?_
    refine OpW.append rfl rfl rfl (q3.grow g4) (hb3.grow g4) (bvs_len1 b) (bvs_one b) ⟨by omega, by omega⟩ (fun A' c' w5 o5 c5 _ => ?_)
    rw [← List.length_append, ← bvs_append] at o5
    rw [← List.length_append]
    refine ⟨fun h => h.andThen c5, ?_⟩
    have o5r := (h3.own.grow g4).keep' c5 hnr
    repeat (first | refine AL2.autoU (hn := ?_) | refine AL2.auto (hn := ?_) | refine AL2.gskip rfl rfl rfl rfl rfl ?_ | refine AL2.goneSkip rfl rfl rfl rfl rfl rfl ?_ | refine AL2.gskipU rfl rfl rfl rfl rfl ?_ | refine AL2.goneSkipU rfl rfl rfl rfl rfl rfl ?_ | refine AL2.gautoU (hn := ?_) | refine AL2.gauto (hn := ?_) | refine AL2.oauto (hn := ?_))
    refine AL2.takeU rfl rfl rfl (fun w hg => OpW.indexAddr i rfl rfl rfl hil q4 q5 ⟨rfl, rfl⟩) ?_
    repeat (first | refine AL2.autoU (hn := ?_) | refine AL2.auto (hn := ?_) | refine AL2.gskip rfl rfl rfl rfl rfl ?_ | refine AL2.goneSkip rfl rfl rfl rfl rfl rfl ?_ | refine AL2.gskipU rfl rfl rfl rfl rfl ?_ | refine AL2.goneSkipU rfl rfl rfl rfl rfl rfl ?_ | refine AL2.gautoU (hn := ?_) | refine AL2.gauto (hn := ?_) | refine AL2.oauto (hn := ?_))
    refine AL2.last0 rfl rfl ?_
    refine OpW.storeOwnK (q := i * 3 + 1) (v := .slice A' (f.data ++ b).length c') rfl rfl rfl o5r (by omega) (fun w6 o6 c6 _ => ⟨fun h => (h.mono fun k _ hk => Or.inl hk).andThen (c6.mono fun k _ hk => Or.inr hk), ?_⟩)
    repeat (first | refine AL.nil ?_ | refine AL.auto (hn := ?_) | refine AL.gskip rfl rfl rfl rfl rfl ?_ | refine AL.goneSkip rfl rfl rfl rfl rfl ?_ | refine AL.gauto (hn := ?_) | refine AL.oauto (hn := ?_))
    repeat (first | refine WL.nil ?_ | refine WL.auto (h := ?_) | refine WL.gskip rfl rfl rfl rfl ?_ | refine WL.gauto (h := ?_) | (refine CW.seq ?_; intro K hK) | refine CW.block ?_ | refine CW.region ?_ | refine CW.skip ?_ | refine CW.exit ?_ | refine CW.ret ?_ | (refine thn_ret (K := K) ?_; clear hK K) | refine thn_ret ?_ | refine blk_ret ?_ | (refine thn_exit (K := K) ?_; clear hK K) | refine thn_exit ?_ | refine blk_here ?_ | refine blk_past rfl ?_ | refine thn_norm ?_ | refine blk_norm ?_ | refine CW.condT rfl ?_ | refine CW.condF rfl ?_ | (refine hK _ _ ?_; clear hK K))
    refine out1 (v := .int .i64 0) Try.results103 rfl ?_ (Or.inr rfl)
    rw [hadd]
    have C36 : Chg (fun k => (∃ a, DA = some a ∧ a.block = k) ∨ ∃ a, RA' = some a ∧ a.block = k) w3 w6 := (Grow.chg g4 (c5.mono fun k _ hk => Or.inl hk)).andThen (c6.mono fun k _ hk => Or.inr hk)
    have hlt : ∀ {k}, k < w3.heap.size → (if k < w3.heap.size then tag' k else .rdata i) = tag' k := fun hk => by rw [if_pos hk]
    have hR := h3.retag (tag' := fun k => if k < w3.heap.size then tag' k else .rdata i) fun k hk => hlt hk
    have z4 : w3.heap.size ≤ w4.heap.size := g4.size
    have hz : ∀ k, (∃ a, DA = some a ∧ a.block = k) ∨ w4.heap.size ≤ k → (if k < w3.heap.size then tag' k else .rdata i) = .rdata i := by
      rintro k (⟨a, ha, rfl⟩ | hk)
      · rw [hlt (q3.in_ ha).2]; exact (q3.in_ ha).1
      · rw [if_neg (by omega)]
    have s23 := hC.size
    have s2 := g2.size
    have hR6 := hR.setFile (c := 1) (f' := { f with data := f.data ++ b }) (DA := A') (cap := c') hi C36 (fun k hk => hk.symm.imp id fun hk => Or.inl (hz k (Or.inl hk))) (by decide) (o6.zone fun a ha => by
        have q := (h3.own.in_ ha)
        show (if _ then _ else _) = _
        rw [if_pos q.2]; exact q.1) (by rw [q6]; rfl) ((o5.mono hz).keep c6 (by
        rintro k hk ⟨a, ha, rfl⟩
        have q := (h3.own.in_ ha)
        rw [if_pos q.2, q.1] at hk; cases hk))
    refine ⟨rfl, _, fun k hk => ?_, ⟨RA', rcap', _, hR6⟩, Grow.chg g2 (hC.trans C36 fun k hk hc => ?_)⟩
    · rw [hlt (by omega)]; exact ht k (by omega)
    · rcases hc with ⟨a, ha, rfl⟩ | ⟨a, ha, rfl⟩
      · have q := (q3.in_ ha).1
        rw [ht _ hk] at q
        rw [q]; rfl
      · have q := (h3.own.in_ ha).1
        rw [ht _ hk] at q
        rw [q]; rfl
  clear hK
  cases hx : d.ix s with
  | some i =>
    obtain ⟨f, hi, hname⟩ := ix_get hx
    have hadd : d.add s b = (0, { d with files := d.files.set i { f with data := f.data ++ b } }) := by
      unfold PD.add; rw [hx]; simp only; rw [modify_set hi]
    have key2 := key tag w2 RA rcap cells d i f (fun _ _ => rfl) (Chg.refl _ _) h2 hi (hd f (List.mem_of_getElem? hi)) hb2 hadd
    clear key
    repeat (first | refine WL.nil ?_ | refine WL.auto (h := ?_) | refine WL.gskip rfl rfl rfl rfl ?_ | refine WL.gskipU rfl rfl rfl rfl ?_ | refine WL.gauto (h := ?_) | (refine CW.seq ?_; intro K hK) | refine CW.block ?_ | refine CW.region ?_ | refine CW.skip ?_ | refine CW.exit ?_ | refine CW.ret ?_ | (refine thn_ret (K := K) ?_; clear hK K) | refine thn_ret ?_ | refine blk_ret ?_ | (refine thn_exit (K := K) ?_; clear hK K) | refine thn_exit ?_ | refine blk_here ?_ | refine blk_past rfl ?_ | refine thn_norm ?_ | refine blk_norm ?_ | refine CW.condT rfl ?_ | refine CW.condF rfl ?_ | (refine hK _ _ ?_; clear hK K))
    exact K_of' key2 (rep3 rfl rfl rfl)
  | none =>
    have hG : d.add s b = if rightName s = false ∨ 16 ≤ d.files.length then (50, d) else (0, { d with files := d.files ++ [⟨s, b, 0⟩] }) := by
      unfold PD.add; rw [hx]
    have hbk := h2.blk
    repeat (first | refine WL.nil ?_ | refine WL.auto (h := ?_) | refine WL.gskip rfl rfl rfl rfl ?_ | refine WL.gskipU rfl rfl rfl rfl ?_ | refine WL.gauto (h := ?_) | (refine CW.seq ?_; intro K hK) | refine CW.block ?_ | refine CW.region ?_ | refine CW.skip ?_ | refine CW.exit ?_ | refine CW.ret ?_ | (refine thn_ret (K := K) ?_; clear hK K) | refine thn_ret ?_ | refine blk_ret ?_ | (refine thn_exit (K := K) ?_; clear hK K) | refine thn_exit ?_ | refine blk_here ?_ | refine blk_past rfl ?_ | refine thn_norm ?_ | refine blk_norm ?_ | refine CW.condT rfl ?_ | refine CW.condF rfl ?_ | (refine hK _ _ ?_; clear hK K))
    first | refine WL.step rfl ?_ | refine WL.gstep rfl rfl rfl rfl ?_
    refine OpW.call ((right74 s w2 (by omega)).mono ?_) rfl
    rintro v w3 ⟨rfl, g3⟩
    have h3 := h2.grow g3
    have hbk3 := h3.blk
    by_cases hbad : rightName s = false ∨ 16 ≤ d.files.length
    · rw [if_pos hbad] at hG
      cases hrn : rightName s with
      | false =>
        repeat (first | refine WL.nil ?_ | refine WL.auto (h := ?_) | refine WL.gskip rfl rfl rfl rfl ?_ | refine WL.gskipU rfl rfl rfl rfl ?_ | refine WL.gauto (h := ?_) | (refine CW.seq ?_; intro K hK) | refine CW.block ?_ | refine CW.region ?_ | refine CW.skip ?_ | refine CW.exit ?_ | refine CW.ret ?_ | (refine thn_ret (K := K) ?_; clear hK K) | refine thn_ret ?_ | refine blk_ret ?_ | (refine thn_exit (K := K) ?_; clear hK K) | refine thn_exit ?_ | refine blk_here ?_ | refine blk_past rfl ?_ | refine thn_norm ?_ | refine blk_norm ?_ | refine CW.condT rfl ?_ | refine CW.condF rfl ?_ | (refine hK _ _ ?_; clear hK K))
        refine out1 (v := .int .i64 50) Try.results103 rfl ?_ (Or.inr rfl)
        rw [hG]
        exact ⟨rfl, tag, fun _ _ => rfl, ⟨_, _, _, h3⟩, Chg.to (g2.then g3)⟩
      | true =>
        have h16 : 16 ≤ d.files.length := hbad.resolve_left (by simp [hrn])
        repeat (first | refine WL.nil ?_ | refine WL.auto (h := ?_) | refine WL.gskip rfl rfl rfl rfl ?_ | refine WL.gskipU rfl rfl rfl rfl ?_ | refine WL.gauto (h := ?_) | (refine CW.seq ?_; intro K hK) | refine CW.block ?_ | refine CW.region ?_ | refine CW.skip ?_ | refine CW.exit ?_ | refine CW.ret ?_ | (refine thn_ret (K := K) ?_; clear hK K) | refine thn_ret ?_ | refine blk_ret ?_ | (refine thn_exit (K := K) ?_; clear hK K) | refine thn_exit ?_ | refine blk_here ?_ | refine blk_past rfl ?_ | refine thn_norm ?_ | refine blk_norm ?_ | refine CW.condT rfl ?_ | refine CW.condF rfl ?_ | (refine hK _ _ ?_; clear hK K))
        rw [decide_eq_true (p := (16 : Int) ≤ (d.files.length : Int)) (by omega)]
        repeat (first | refine WL.nil ?_ | refine WL.auto (h := ?_) | refine WL.gskip rfl rfl rfl rfl ?_ | refine WL.gskipU rfl rfl rfl rfl ?_ | refine WL.gauto (h := ?_) | (refine CW.seq ?_; intro K hK) | refine CW.block ?_ | refine CW.region ?_ | refine CW.skip ?_ | refine CW.exit ?_ | refine CW.ret ?_ | (refine thn_ret (K := K) ?_; clear hK K) | refine thn_ret ?_ | refine blk_ret ?_ | (refine thn_exit (K := K) ?_; clear hK K) | refine thn_exit ?_ | refine blk_here ?_ | refine blk_past rfl ?_ | refine thn_norm ?_ | refine blk_norm ?_ | refine CW.condT rfl ?_ | refine CW.condF rfl ?_ | (refine hK _ _ ?_; clear hK K))
        refine out1 (v := .int .i64 50) Try.results103 rfl ?_ (Or.inr rfl)
        rw [hG]
        exact ⟨rfl, tag, fun _ _ => rfl, ⟨_, _, _, h3⟩, Chg.to (g2.then g3)⟩
    · rw [if_neg hbad] at hG
      have hrn : rightName s = true := by cases hq : rightName s with
        | true => rfl
        | false => exact absurd (Or.inl hq) hbad
      have h16 : ¬ 16 ≤ d.files.length := fun h => hbad (Or.inr h)
      rw [hrn]
      repeat (first | refine WL.nil ?_ | refine WL.auto (h := ?_) | refine WL.gskip rfl rfl rfl rfl ?_ | refine WL.gskipU rfl rfl rfl rfl ?_ | refine WL.gauto (h := ?_) | (refine CW.seq ?_; intro K hK) | refine CW.block ?_ | refine CW.region ?_ | refine CW.skip ?_ | refine CW.exit ?_ | refine CW.ret ?_ | (refine thn_ret (K := K) ?_; clear hK K) | refine thn_ret ?_ | refine blk_ret ?_ | (refine thn_exit (K := K) ?_; clear hK K) | refine thn_exit ?_ | refine blk_here ?_ | refine blk_past rfl ?_ | refine thn_norm ?_ | refine blk_norm ?_ | refine CW.condT rfl ?_ | refine CW.condF rfl ?_ | (refine hK _ _ ?_; clear hK K))
      rw [decide_eq_false (p := (16 : Int) ≤ (d.files.length : Int)) (by omega)]
      repeat (first | refine WL.nil ?_ | refine WL.auto (h := ?_) | refine WL.gskip rfl rfl rfl rfl ?_ | refine WL.gskipU rfl rfl rfl rfl ?_ | refine WL.gauto (h := ?_) | (refine CW.seq ?_; intro K hK) | refine CW.block ?_ | refine CW.region ?_ | refine CW.skip ?_ | refine CW.exit ?_ | refine CW.ret ?_ | (refine thn_ret (K := K) ?_; clear hK K) | refine thn_ret ?_ | refine blk_ret ?_ | (refine thn_exit (K := K) ?_; clear hK K) | refine thn_exit ?_ | refine blk_here ?_ | refine blk_past rfl ?_ | refine thn_norm ?_ | refine blk_norm ?_ | refine CW.condT rfl ?_ | refine CW.condF rfl ?_ | (refine hK _ _ ?_; clear hK K))
      first | refine WL.step rfl ?_ | refine WL.gstep rfl rfl rfl rfl ?_
      refine OpW.build (cells := #[.string (bstr s), .slice none 0 0, .int .i64 0]) rfl rfl ?_
      repeat (first | refine WL.nil ?_ | refine WL.auto (h := ?_) | refine WL.gskip rfl rfl rfl rfl ?_ | refine WL.gskipU rfl rfl rfl rfl ?_ | refine WL.gauto (h := ?_) | (refine CW.seq ?_; intro K hK) | refine CW.block ?_ | refine CW.region ?_ | refine CW.skip ?_ | refine CW.exit ?_ | refine CW.ret ?_ | (refine thn_ret (K := K) ?_; clear hK K) | refine thn_ret ?_ | refine blk_ret ?_ | (refine thn_exit (K := K) ?_; clear hK K) | refine thn_exit ?_ | refine blk_here ?_ | refine blk_past rfl ?_ | refine thn_norm ?_ | refine blk_norm ?_ | refine CW.condT rfl ?_ | refine CW.condF rfl ?_ | (refine hK _ _ ?_; clear hK K))
      first | refine WL.step rfl ?_ | refine WL.gstep rfl rfl rfl rfl ?_
      refine OpW.buildOne (.agg #[.string (bstr s), .slice none 0 0, .int .i64 0]) rfl rfl rfl ?_
      intro b5 w5 n5
      have h5 := h3.grow n5.grow
      repeat (first | refine WL.nil ?_ | refine WL.auto (h := ?_) | refine WL.gskip rfl rfl rfl rfl ?_ | refine WL.gskipU rfl rfl rfl rfl ?_ | refine WL.gauto (h := ?_) | (refine CW.seq ?_; intro K hK) | refine CW.block ?_ | refine CW.region ?_ | refine CW.skip ?_ | refine CW.exit ?_ | refine CW.ret ?_ | (refine thn_ret (K := K) ?_; clear hK K) | refine thn_ret ?_ | refine blk_ret ?_ | (refine thn_exit (K := K) ?_; clear hK K) | refine thn_exit ?_ | refine blk_here ?_ | refine blk_past rfl ?_ | refine thn_norm ?_ | refine blk_norm ?_ | refine CW.condT rfl ?_ | refine CW.condF rfl ?_ | (refine hK _ _ ?_; clear hK K))
      first | refine WL.step rfl ?_ | refine WL.gstep rfl rfl rfl rfl ?_
      refine OpW.append (ys := [.string (bstr s), .slice none 0 0, .int .i64 0]) rfl rfl rfl h5.own (blk_sl_lit (vs := [.string (bstr s), .slice none 0 0, .int .i64 0]) n5) rfl (one1 _ rfl) ⟨by omega, by omega⟩ (fun RA' rcap' w6 o6 c6 _ => ?_)
      have hb6 := h5.blk.keep c6 (by rintro ⟨a, ha, e⟩; have := (h5.own.in_ ha).1; rw [e, h5.tg] at this; cases this)
      repeat (first | refine WL.nil ?_ | refine WL.auto (h := ?_) | refine WL.gskip rfl rfl rfl rfl ?_ | refine WL.gskipU rfl rfl rfl rfl ?_ | refine WL.gauto (h := ?_) | (refine CW.seq ?_; intro K hK) | refine CW.block ?_ | refine CW.region ?_ | refine CW.skip ?_ | refine CW.exit ?_ | refine CW.ret ?_ | (refine thn_ret (K := K) ?_; clear hK K) | refine thn_ret ?_ | refine blk_ret ?_ | (refine thn_exit (K := K) ?_; clear hK K) | refine thn_exit ?_ | refine blk_here ?_ | refine blk_past rfl ?_ | refine thn_norm ?_ | refine blk_norm ?_ | refine CW.condT rfl ?_ | refine CW.condF rfl ?_ | (refine hK _ _ ?_; clear hK K))
      refine WL.step0 ?_
      refine OpW.store (v := .slice _ _ _) rfl rfl rfl hb6 rfl (c' := #[_, _, _]) rfl ?_
      intro w7 hp7 hb7
      have z5 : w3.heap.size ≤ w5.heap.size := n5.grow.size
      have mlt : mb < w3.heap.size := h3.blk.lt
      have C37 : Chg (fun k => k = mb ∨ ∃ a, RA = some a ∧ a.block = k) w3 w7 := (Grow.chg n5.grow (c6.mono fun k _ hk => Or.inr hk)).andThen (hp7.chg.mono fun k _ hk => Or.inl hk)
      have o7 := o6.keep hp7.chg (by
        rintro k (⟨a, ha, rfl⟩ | hk) e
        · have q := (h5.own.in_ ha).1
          rw [e, h5.tg] at q; cases q
        · omega)
      obtain ⟨tag', ht', hR7⟩ := h3.snoc (g := ⟨s, [], 0⟩) (DA := none) (cap := 0) (fun _ => true) C37 hb7 (o7.zone fun a ha => by
        rcases (o7.in_ ha).1 with q | q
        · exact Or.inl q
        · exact Or.inr ⟨by omega, rfl⟩) (Own.nil _ _ _ _)
      have hsn := set_snoc d.files ⟨s, [], 0⟩ ⟨s, b, 0⟩
      have hb7' : Sl w7 B (bvs b) := (hb2.grow g3).keepN C37 (by
        rintro hne a ha (e | ⟨a', ha', e⟩)
        · have q := hB (bvs_ne hne) a ha
          rw [e, h.tg] at q; cases q
        · have q := hB (bvs_ne hne) a ha
          rw [← e, (h.own.in_ ha').1] at q; cases q)
      have key2 := key tag' w7 RA' rcap' _ _ d.files.length ⟨s, [], 0⟩ (fun k hk => ht' k (by have := g3.size; omega)) (Grow.chg g3 (C37.mono fun k hk hc => by
          rcases hc with rfl | ⟨a, ha, rfl⟩
          · rw [h.tg]; rfl
          · rw [(h.own.in_ ha).1]; rfl)) hR7 (by simp) (by simp) hb7' (by rw [hG]; simp only [List.nil_append]; rw [hsn])
      clear key
      repeat (first | refine WL.nil ?_ | refine WL.auto (h := ?_) | refine WL.gskip rfl rfl rfl rfl ?_ | refine WL.gskipU rfl rfl rfl rfl ?_ | refine WL.gauto (h := ?_) | (refine CW.seq ?_; intro K hK) | refine CW.block ?_ | refine CW.region ?_ | refine CW.skip ?_ | refine CW.exit ?_ | refine CW.ret ?_ | (refine thn_ret (K := K) ?_; clear hK K) | refine thn_ret ?_ | refine blk_ret ?_ | (refine thn_exit (K := K) ?_; clear hK K) | refine thn_exit ?_ | refine blk_here ?_ | refine blk_past rfl ?_ | refine thn_norm ?_ | refine blk_norm ?_ | refine CW.condT rfl ?_ | refine CW.condF rfl ?_ | (refine hK _ _ ?_; clear hK K))
      exact K_of' key2 (rep3 rfl rfl (congrArg (Value.int .i64) (by omega)))
theorem append_add {d d1 : PD} {e : Int} {s b : List UInt8} (hbg : d.begin = (true, e, d1)) (he : e = 0 ∨ e = 51) (hn : d1.files.length ≤ 16) : d.append s b = (if e = 51 then 51 else (d1.add s b).1, (d1.add s b).2) := by
  unfold PD.append PD.add
  rw [hbg]
  simp only [if_true]
  cases hx : d1.ix s with
  | none =>
    simp only
    by_cases hbad : rightName s = false ∨ d1.files.length = 16
    · have hb2 : rightName s = false ∨ 16 ≤ d1.files.length := hbad.imp id (fun h => by omega)
      simp only [hbad, hb2, if_true]
      rcases he with rfl | rfl <;> rfl
    · have hb2 : ¬ (rightName s = false ∨ 16 ≤ d1.files.length) := fun h => hbad (h.imp id (fun h => by omega))
      simp only [hbad, hb2, if_false]
      rcases he with rfl | rfl <;> rfl
  | some i =>
    simp only
    rcases he with rfl | rfl <;> rfl
theorem rappend83 (tag : Nat → Tag) (mb : Nat) (d : PD) (s b : List UInt8) (B : Option Addr) (bcap : Nat) (w : World) (h : RefRep tag w mb d) (ha : d.armed ≤ 9223372036854775807) (hn : d.files.length ≤ 16) (hs : s.length ≤ 1099511627776)
    (hb : Sl w B (bvs b)) (hB : b ≠ [] → ∀ a, B = some a → (tag a.block).ref = false) (hbl : b.length ≤ 1099511627776) (hd : ∀ f ∈ d.files, f.data.length ≤ 1099511627776) :
    Ret Try.prog 83 #[.pointer (some ⟨mb, 0, none⟩), .string (bstr s), .slice B b.length bcap] w fun v w' => v = .int .i64 (d.append s b).1 ∧ WentR tag w w' mb (d.append s b).2 := by
  obtain ⟨RA, rcap, cells, h⟩ := h
  have hbk := h.blk
  refine Ret.enter (fn := Try.f83) (N := 21) Try.func83 rfl Try.ntmps83 rfl ?_
  repeat (first | refine WL.nil ?_ | refine WL.auto (h := ?_) | refine WL.gskip rfl rfl rfl rfl ?_ | refine WL.gauto (h := ?_) | (refine CW.seq ?_; intro K hK) | refine CW.block ?_ | refine CW.region ?_ | refine CW.skip ?_ | refine CW.exit ?_ | refine CW.ret ?_ | (refine thn_ret (K := K) ?_; clear hK K) | refine thn_ret ?_ | refine blk_ret ?_ | (refine thn_exit (K := K) ?_; clear hK K) | refine thn_exit ?_ | refine blk_here ?_ | refine blk_past rfl ?_ | refine thn_norm ?_ | refine blk_norm ?_ | refine CW.condT rfl ?_ | refine CW.condF rfl ?_ | (refine hK _ _ ?_; clear hK K))
  cases ho : d.off with
  | true =>
    have e1 : d.append s b = (51, d) := by unfold PD.append; rw [begin_off ho]; rfl
    repeat (first | refine WL.nil ?_ | refine WL.auto (h := ?_) | refine WL.gskip rfl rfl rfl rfl ?_ | refine WL.gskipU rfl rfl rfl rfl ?_ | refine WL.gauto (h := ?_) | (refine CW.seq ?_; intro K hK) | refine CW.block ?_ | refine CW.region ?_ | refine CW.skip ?_ | refine CW.exit ?_ | refine CW.ret ?_ | (refine thn_ret (K := K) ?_; clear hK K) | refine thn_ret ?_ | refine blk_ret ?_ | (refine thn_exit (K := K) ?_; clear hK K) | refine thn_exit ?_ | refine blk_here ?_ | refine blk_past rfl ?_ | refine thn_norm ?_ | refine blk_norm ?_ | refine CW.condT rfl ?_ | refine CW.condF rfl ?_ | (refine hK _ _ ?_; clear hK K))
    refine out1 (v := .int .i64 51) Try.results83 rfl ?_ (Or.inr rfl)
    rw [e1]
    exact ⟨rfl, tag, fun _ _ => rfl, ⟨_, _, _, h⟩, Chg.refl _ _⟩
  | false =>
    repeat (first | refine WL.nil ?_ | refine WL.auto (h := ?_) | refine WL.gskip rfl rfl rfl rfl ?_ | refine WL.gskipU rfl rfl rfl rfl ?_ | refine WL.gauto (h := ?_) | (refine CW.seq ?_; intro K hK) | refine CW.block ?_ | refine CW.region ?_ | refine CW.skip ?_ | refine CW.exit ?_ | refine CW.ret ?_ | (refine thn_ret (K := K) ?_; clear hK K) | refine thn_ret ?_ | refine blk_ret ?_ | (refine thn_exit (K := K) ?_; clear hK K) | refine thn_exit ?_ | refine blk_here ?_ | refine blk_past rfl ?_ | refine thn_norm ?_ | refine blk_norm ?_ | refine CW.condT rfl ?_ | refine CW.condF rfl ?_ | (refine hK _ _ ?_; clear hK K))
    first | refine WL.step rfl ?_ | refine WL.gstep rfl rfl rfl rfl ?_
    refine OpW.call ((goes102 tag mb RA rcap cells d w h ha ho).mono ?_) rfl
    rintro v w1 ⟨rfl, k1, k2, h1, c1⟩
    have hf1 := begin_files d
    have t1 := h.toRef c1
    generalize hbg : d.begin = r at *
    obtain ⟨dn, e, d1⟩ := r
    simp only at h1 hf1 k1 k2
    subst k1
    have hadd := append_add (s := s) (b := b) hbg k2 (by rw [hf1]; exact hn)
    have hb1 : Sl w1 B (bvs b) := hb.keepN c1 fun hne a ha e => by
      have q := hB (bvs_ne hne) a ha
      rw [e, h.tg] at q; cases q
    repeat (first | refine WL.nil ?_ | refine WL.auto (h := ?_) | refine WL.gskip rfl rfl rfl rfl ?_ | refine WL.gskipU rfl rfl rfl rfl ?_ | refine WL.gauto (h := ?_) | (refine CW.seq ?_; intro K hK) | refine CW.block ?_ | refine CW.region ?_ | refine CW.skip ?_ | refine CW.exit ?_ | refine CW.ret ?_ | (refine thn_ret (K := K) ?_; clear hK K) | refine thn_ret ?_ | refine blk_ret ?_ | (refine thn_exit (K := K) ?_; clear hK K) | refine thn_exit ?_ | refine blk_here ?_ | refine blk_past rfl ?_ | refine thn_norm ?_ | refine blk_norm ?_ | refine CW.condT rfl ?_ | refine CW.condF rfl ?_ | (refine hK _ _ ?_; clear hK K))
    first | refine WL.step rfl ?_ | refine WL.gstep rfl rfl rfl rfl ?_
    refine OpW.call ((radd103 tag mb d1 s b B bcap w1 ⟨_, _, _, h1⟩ (by rw [hf1]; exact hn) hs hb1 hB hbl (by rw [hf1]; exact hd)).mono ?_) rfl
    rintro v w2 ⟨rfl, tag2, q1, q2, q3⟩
    have hW : WentR tag w w2 mb (d1.add s b).2 := ⟨tag2, fun k hk => q1 k (by have := c1.size; omega), q2, t1.andThen q3⟩
    generalize d1.add s b = r2 at *
    obtain ⟨e2, d2⟩ := r2
    simp only at hadd hW
    rcases k2 with rfl | rfl
    · repeat (first | refine WL.nil ?_ | refine WL.auto (h := ?_) | refine WL.gskip rfl rfl rfl rfl ?_ | refine WL.gskipU rfl rfl rfl rfl ?_ | refine WL.gauto (h := ?_) | (refine CW.seq ?_; intro K hK) | refine CW.block ?_ | refine CW.region ?_ | refine CW.skip ?_ | refine CW.exit ?_ | refine CW.ret ?_ | (refine thn_ret (K := K) ?_; clear hK K) | refine thn_ret ?_ | refine blk_ret ?_ | (refine thn_exit (K := K) ?_; clear hK K) | refine thn_exit ?_ | refine blk_here ?_ | refine blk_past rfl ?_ | refine thn_norm ?_ | refine blk_norm ?_ | refine CW.condT rfl ?_ | refine CW.condF rfl ?_ | (refine hK _ _ ?_; clear hK K))
      refine out1 (v := .int .i64 e2) Try.results83 rfl ?_ (Or.inr rfl)
      rw [hadd]
      exact ⟨rfl, hW⟩
    · repeat (first | refine WL.nil ?_ | refine WL.auto (h := ?_) | refine WL.gskip rfl rfl rfl rfl ?_ | refine WL.gskipU rfl rfl rfl rfl ?_ | refine WL.gauto (h := ?_) | (refine CW.seq ?_; intro K hK) | refine CW.block ?_ | refine CW.region ?_ | refine CW.skip ?_ | refine CW.exit ?_ | refine CW.ret ?_ | (refine thn_ret (K := K) ?_; clear hK K) | refine thn_ret ?_ | refine blk_ret ?_ | (refine thn_exit (K := K) ?_; clear hK K) | refine thn_exit ?_ | refine blk_here ?_ | refine blk_past rfl ?_ | refine thn_norm ?_ | refine blk_norm ?_ | refine CW.condT rfl ?_ | refine CW.condF rfl ?_ | (refine hK _ _ ?_; clear hK K))
      refine out1 (v := .int .i64 51) Try.results83 rfl ?_ (Or.inr rfl)
      rw [hadd]
      exact ⟨rfl, hW⟩

theorem rtruncate85 (tag : Nat → Tag) (mb : Nat) (RA : Option Addr) (rcap : Nat) (cells : List Value) (d : PD) (s : List UInt8) (n : Int) (w : World) (h : RefAt tag w mb RA rcap cells d) (ha : d.armed ≤ 9223372036854775807) (hn : d.files.length ≤ 16) :
    Ret Try.prog 85 #[.pointer (some ⟨mb, 0, none⟩), .string (bstr s), .int .i64 n] w fun v w' => v = .int .i64 (d.truncate s n).1 ∧ RefRep tag w' mb (d.truncate s n).2 ∧ Chg (fun b => (tag b).ref = true) w w' := by
  have hb := h.blk
  refine Ret.enter (fn := Try.f85) (N := 70) Try.func85 rfl Try.ntmps85 rfl ?_
  repeat (first | refine WL.nil ?_ | refine WL.auto (h := ?_) | refine WL.gskip rfl rfl rfl rfl ?_ | refine WL.gauto (h := ?_) | (refine CW.seq ?_; intro K hK) | refine CW.block ?_ | refine CW.region ?_ | refine CW.skip ?_ | refine CW.exit ?_ | refine CW.ret ?_ | (refine thn_ret (K := K) ?_; clear hK K) | refine thn_ret ?_ | refine blk_ret ?_ | (refine thn_exit (K := K) ?_; clear hK K) | refine thn_exit ?_ | refine blk_here ?_ | refine blk_past rfl ?_ | refine thn_norm ?_ | refine blk_norm ?_ | refine CW.condT rfl ?_ | refine CW.condF rfl ?_ | (refine hK _ _ ?_; clear hK K))
  cases ho : d.off with
  | true =>
    have e1 : d.truncate s n = (51, d) := by unfold PD.truncate; rw [begin_off ho]; rfl
    repeat (first | refine WL.nil ?_ | refine WL.auto (h := ?_) | refine WL.gskip rfl rfl rfl rfl ?_ | refine WL.gskipU rfl rfl rfl rfl ?_ | refine WL.gauto (h := ?_) | (refine CW.seq ?_; intro K hK) | refine CW.block ?_ | refine CW.region ?_ | refine CW.skip ?_ | refine CW.exit ?_ | refine CW.ret ?_ | (refine thn_ret (K := K) ?_; clear hK K) | refine thn_ret ?_ | refine blk_ret ?_ | (refine thn_exit (K := K) ?_; clear hK K) | refine thn_exit ?_ | refine blk_here ?_ | refine blk_past rfl ?_ | refine thn_norm ?_ | refine blk_norm ?_ | refine CW.condT rfl ?_ | refine CW.condF rfl ?_ | (refine hK _ _ ?_; clear hK K))
    refine out1 (v := .int .i64 51) Try.results85 rfl ?_ (Or.inr rfl)
    rw [e1]
    exact ⟨rfl, ⟨_, _, _, h⟩, Chg.refl _ _⟩
  | false =>
    repeat (first | refine WL.nil ?_ | refine WL.auto (h := ?_) | refine WL.gskip rfl rfl rfl rfl ?_ | refine WL.gskipU rfl rfl rfl rfl ?_ | refine WL.gauto (h := ?_) | (refine CW.seq ?_; intro K hK) | refine CW.block ?_ | refine CW.region ?_ | refine CW.skip ?_ | refine CW.exit ?_ | refine CW.ret ?_ | (refine thn_ret (K := K) ?_; clear hK K) | refine thn_ret ?_ | refine blk_ret ?_ | (refine thn_exit (K := K) ?_; clear hK K) | refine thn_exit ?_ | refine blk_here ?_ | refine blk_past rfl ?_ | refine thn_norm ?_ | refine blk_norm ?_ | refine CW.condT rfl ?_ | refine CW.condF rfl ?_ | (refine hK _ _ ?_; clear hK K))
    first | refine WL.step rfl ?_ | refine WL.gstep rfl rfl rfl rfl ?_
    refine OpW.call ((goes102 tag mb RA rcap cells d w h ha ho).mono ?_) rfl
    rintro v w1 ⟨rfl, k1, k2, h1, c1⟩
    have hf1 := begin_files d
    have t1 := h.toRef c1
    generalize hbg : d.begin = r at *
    obtain ⟨dn, e, d1⟩ := r
    simp only at h1 hf1 k1 k2
    rcases k2 with rfl | rfl
    · repeat (first | refine WL.nil ?_ | refine WL.auto (h := ?_) | refine WL.gskip rfl rfl rfl rfl ?_ | refine WL.gskipU rfl rfl rfl rfl ?_ | refine WL.gauto (h := ?_) | (refine CW.seq ?_; intro K hK) | refine CW.block ?_ | refine CW.region ?_ | refine CW.skip ?_ | refine CW.exit ?_ | refine CW.ret ?_ | (refine thn_ret (K := K) ?_; clear hK K) | refine thn_ret ?_ | refine blk_ret ?_ | (refine thn_exit (K := K) ?_; clear hK K) | refine thn_exit ?_ | refine blk_here ?_ | refine blk_past rfl ?_ | refine thn_norm ?_ | refine blk_norm ?_ | refine CW.condT rfl ?_ | refine CW.condF rfl ?_ | (refine hK _ _ ?_; clear hK K))
      first | refine WL.step rfl ?_ | refine WL.gstep rfl rfl rfl rfl ?_
      refine OpW.call ((find75 tag mb RA rcap cells d1 s w1 h1 (by rw [hf1]; omega)).mono ?_) rfl
      rintro v w2 ⟨g2, rfl⟩
      have h2 := h1.grow g2
      have hb2 := h2.blk
      repeat (first | refine WL.nil ?_ | refine WL.auto (h := ?_) | refine WL.gskip rfl rfl rfl rfl ?_ | refine WL.gskipU rfl rfl rfl rfl ?_ | refine WL.gauto (h := ?_) | (refine CW.seq ?_; intro K hK) | refine CW.block ?_ | refine CW.region ?_ | refine CW.skip ?_ | refine CW.exit ?_ | refine CW.ret ?_ | (refine thn_ret (K := K) ?_; clear hK K) | refine thn_ret ?_ | refine blk_ret ?_ | (refine thn_exit (K := K) ?_; clear hK K) | refine thn_exit ?_ | refine blk_here ?_ | refine blk_past rfl ?_ | refine thn_norm ?_ | refine blk_norm ?_ | refine CW.condT rfl ?_ | refine CW.condF rfl ?_ | (refine hK _ _ ?_; clear hK K))
      rw [ixInt_neg]
      cases hx : d1.ix s with
      | none =>
        have e1 : d.truncate s n = (50, d1) := by unfold PD.truncate; rw [hbg]; simp only; rw [if_neg (by simp), hx]
        repeat (first | refine WL.nil ?_ | refine WL.auto (h := ?_) | refine WL.gskip rfl rfl rfl rfl ?_ | refine WL.gskipU rfl rfl rfl rfl ?_ | refine WL.gauto (h := ?_) | (refine CW.seq ?_; intro K hK) | refine CW.block ?_ | refine CW.region ?_ | refine CW.skip ?_ | refine CW.exit ?_ | refine CW.ret ?_ | (refine thn_ret (K := K) ?_; clear hK K) | refine thn_ret ?_ | refine blk_ret ?_ | (refine thn_exit (K := K) ?_; clear hK K) | refine thn_exit ?_ | refine blk_here ?_ | refine blk_past rfl ?_ | refine thn_norm ?_ | refine blk_norm ?_ | refine CW.condT rfl ?_ | refine CW.condF rfl ?_ | (refine hK _ _ ?_; clear hK K))
        refine out1 (v := .int .i64 50) Try.results85 rfl ?_ (Or.inr rfl)
        rw [e1]
        exact ⟨rfl, ⟨_, _, _, h2⟩, t1.grow g2⟩
      | some i =>
        obtain ⟨f, hi, hname⟩ := ix_get hx
        have e1 : d.truncate s n = if n < 0 ∨ (f.data.length : Int) < n then (2, d1) else (0, { d1 with files := d1.files.set i { f with data := f.data.take n.toNat, safe := min f.safe n.toNat } }) := by
          unfold PD.truncate; rw [hbg]; simp only; rw [if_neg (by simp), hx]
          show (if n < 0 ∨ (((d1.files[i]?.map fun f => f.data.length).getD 0 : Nat) : Int) < n then ((2 : Int), d1) else (0, ({ d1 with files := d1.files.modify i fun f => { f with data := f.data.take n.toNat, safe := min f.safe n.toNat } } : PD))) = _
          rw [modify_set hi, hi]
          rfl
        obtain ⟨DA, cap, q0, q1, q2, q3, q4, q5, q6⟩ := h2.at_ hi
        have hsl := h2.own.sl
        have hil := (List.getElem?_eq_some_iff.1 hi).1
        by_cases hn0 : n < 0
        · rw [if_pos (Or.inl hn0)] at e1
          repeat (first | refine WL.nil ?_ | refine WL.auto (h := ?_) | refine WL.gskip rfl rfl rfl rfl ?_ | refine WL.gskipU rfl rfl rfl rfl ?_ | refine WL.gauto (h := ?_) | (refine CW.seq ?_; intro K hK) | refine CW.block ?_ | refine CW.region ?_ | refine CW.skip ?_ | refine CW.exit ?_ | refine CW.ret ?_ | (refine thn_ret (K := K) ?_; clear hK K) | refine thn_ret ?_ | refine blk_ret ?_ | (refine thn_exit (K := K) ?_; clear hK K) | refine thn_exit ?_ | refine blk_here ?_ | refine blk_past rfl ?_ | refine thn_norm ?_ | refine blk_norm ?_ | refine CW.condT rfl ?_ | refine CW.condF rfl ?_ | (refine hK _ _ ?_; clear hK K))
          rw [decide_eq_true hn0]
          repeat (first | refine WL.nil ?_ | refine WL.auto (h := ?_) | refine WL.gskip rfl rfl rfl rfl ?_ | refine WL.gskipU rfl rfl rfl rfl ?_ | refine WL.gauto (h := ?_) | (refine CW.seq ?_; intro K hK) | refine CW.block ?_ | refine CW.region ?_ | refine CW.skip ?_ | refine CW.exit ?_ | refine CW.ret ?_ | (refine thn_ret (K := K) ?_; clear hK K) | refine thn_ret ?_ | refine blk_ret ?_ | (refine thn_exit (K := K) ?_; clear hK K) | refine thn_exit ?_ | refine blk_here ?_ | refine blk_past rfl ?_ | refine thn_norm ?_ | refine blk_norm ?_ | refine CW.condT rfl ?_ | refine CW.condF rfl ?_ | (refine hK _ _ ?_; clear hK K))
          refine out1 (v := .int .i64 2) Try.results85 rfl ?_ (Or.inr rfl)
          rw [e1]
          exact ⟨rfl, ⟨_, _, _, h2⟩, t1.grow g2⟩
        by_cases hn1 : (f.data.length : Int) < n
        · rw [if_pos (Or.inr hn1)] at e1
          repeat (first | refine WL.nil ?_ | refine WL.auto (h := ?_) | refine WL.gskip rfl rfl rfl rfl ?_ | refine WL.gskipU rfl rfl rfl rfl ?_ | refine WL.gauto (h := ?_) | (refine CW.seq ?_; intro K hK) | refine CW.block ?_ | refine CW.region ?_ | refine CW.skip ?_ | refine CW.exit ?_ | refine CW.ret ?_ | (refine thn_ret (K := K) ?_; clear hK K) | refine thn_ret ?_ | refine blk_ret ?_ | (refine thn_exit (K := K) ?_; clear hK K) | refine thn_exit ?_ | refine blk_here ?_ | refine blk_past rfl ?_ | refine thn_norm ?_ | refine blk_norm ?_ | refine CW.condT rfl ?_ | refine CW.condF rfl ?_ | (refine hK _ _ ?_; clear hK K))
          rw [decide_eq_false hn0]
          repeat (first | refine WL.nil ?_ | refine WL.auto (h := ?_) | refine WL.gskip rfl rfl rfl rfl ?_ | refine WL.gskipU rfl rfl rfl rfl ?_ | refine WL.gauto (h := ?_) | (refine CW.seq ?_; intro K hK) | refine CW.block ?_ | refine CW.region ?_ | refine CW.skip ?_ | refine CW.exit ?_ | refine CW.ret ?_ | (refine thn_ret (K := K) ?_; clear hK K) | refine thn_ret ?_ | refine blk_ret ?_ | (refine thn_exit (K := K) ?_; clear hK K) | refine thn_exit ?_ | refine blk_here ?_ | refine blk_past rfl ?_ | refine thn_norm ?_ | refine blk_norm ?_ | refine CW.condT rfl ?_ | refine CW.condF rfl ?_ | (refine hK _ _ ?_; clear hK K))
          first | refine WL.step rfl ?_ | refine WL.gstep rfl rfl rfl rfl ?_
          refine OpW.indexAddr i rfl rfl rfl hil q4 q5 ?_
          repeat (first | refine WL.nil ?_ | refine WL.auto (h := ?_) | refine WL.gskip rfl rfl rfl rfl ?_ | refine WL.gskipU rfl rfl rfl rfl ?_ | refine WL.gauto (h := ?_) | (refine CW.seq ?_; intro K hK) | refine CW.block ?_ | refine CW.region ?_ | refine CW.skip ?_ | refine CW.exit ?_ | refine CW.ret ?_ | (refine thn_ret (K := K) ?_; clear hK K) | refine thn_ret ?_ | refine blk_ret ?_ | (refine thn_exit (K := K) ?_; clear hK K) | refine thn_exit ?_ | refine blk_here ?_ | refine blk_past rfl ?_ | refine thn_norm ?_ | refine blk_norm ?_ | refine CW.condT rfl ?_ | refine CW.condF rfl ?_ | (refine hK _ _ ?_; clear hK K))
          rw [decide_eq_true hn1]
          repeat (first | refine WL.nil ?_ | refine WL.auto (h := ?_) | refine WL.gskip rfl rfl rfl rfl ?_ | refine WL.gskipU rfl rfl rfl rfl ?_ | refine WL.gauto (h := ?_) | (refine CW.seq ?_; intro K hK) | refine CW.block ?_ | refine CW.region ?_ | refine CW.skip ?_ | refine CW.exit ?_ | refine CW.ret ?_ | (refine thn_ret (K := K) ?_; clear hK K) | refine thn_ret ?_ | refine blk_ret ?_ | (refine thn_exit (K := K) ?_; clear hK K) | refine thn_exit ?_ | refine blk_here ?_ | refine blk_past rfl ?_ | refine thn_norm ?_ | refine blk_norm ?_ | refine CW.condT rfl ?_ | refine CW.condF rfl ?_ | (refine hK _ _ ?_; clear hK K))
          refine out1 (v := .int .i64 2) Try.results85 rfl ?_ (Or.inr rfl)
          rw [e1]
          exact ⟨rfl, ⟨_, _, _, h2⟩, t1.grow g2⟩
        rw [if_neg (by omega)] at e1
        repeat (first | refine WL.nil ?_ | refine WL.auto (h := ?_) | refine WL.gskip rfl rfl rfl rfl ?_ | refine WL.gskipU rfl rfl rfl rfl ?_ | refine WL.gauto (h := ?_) | (refine CW.seq ?_; intro K hK) | refine CW.block ?_ | refine CW.region ?_ | refine CW.skip ?_ | refine CW.exit ?_ | refine CW.ret ?_ | (refine thn_ret (K := K) ?_; clear hK K) | refine thn_ret ?_ | refine blk_ret ?_ | (refine thn_exit (K := K) ?_; clear hK K) | refine thn_exit ?_ | refine blk_here ?_ | refine blk_past rfl ?_ | refine thn_norm ?_ | refine blk_norm ?_ | refine CW.condT rfl ?_ | refine CW.condF rfl ?_ | (refine hK _ _ ?_; clear hK K))
        rw [decide_eq_false hn0]
        repeat (first | refine WL.nil ?_ | refine WL.auto (h := ?_) | refine WL.gskip rfl rfl rfl rfl ?_ | refine WL.gskipU rfl rfl rfl rfl ?_ | refine WL.gauto (h := ?_) | (refine CW.seq ?_; intro K hK) | refine CW.block ?_ | refine CW.region ?_ | refine CW.skip ?_ | refine CW.exit ?_ | refine CW.ret ?_ | (refine thn_ret (K := K) ?_; clear hK K) | refine thn_ret ?_ | refine blk_ret ?_ | (refine thn_exit (K := K) ?_; clear hK K) | refine thn_exit ?_ | refine blk_here ?_ | refine blk_past rfl ?_ | refine thn_norm ?_ | refine blk_norm ?_ | refine CW.condT rfl ?_ | refine CW.condF rfl ?_ | (refine hK _ _ ?_; clear hK K))
        first | refine WL.step rfl ?_ | refine WL.gstep rfl rfl rfl rfl ?_
        refine OpW.indexAddr i rfl rfl rfl hil q4 q5 ?_
        repeat (first | refine WL.nil ?_ | refine WL.auto (h := ?_) | refine WL.gskip rfl rfl rfl rfl ?_ | refine WL.gskipU rfl rfl rfl rfl ?_ | refine WL.gauto (h := ?_) | (refine CW.seq ?_; intro K hK) | refine CW.block ?_ | refine CW.region ?_ | refine CW.skip ?_ | refine CW.exit ?_ | refine CW.ret ?_ | (refine thn_ret (K := K) ?_; clear hK K) | refine thn_ret ?_ | refine blk_ret ?_ | (refine thn_exit (K := K) ?_; clear hK K) | refine thn_exit ?_ | refine blk_here ?_ | refine blk_past rfl ?_ | refine thn_norm ?_ | refine blk_norm ?_ | refine CW.condT rfl ?_ | refine CW.condF rfl ?_ | (refine hK _ _ ?_; clear hK K))
        rw [decide_eq_false hn1]
        repeat (first | refine WL.nil ?_ | refine WL.auto (h := ?_) | refine WL.gskip rfl rfl rfl rfl ?_ | refine WL.gskipU rfl rfl rfl rfl ?_ | refine WL.gauto (h := ?_) | (refine CW.seq ?_; intro K hK) | refine CW.block ?_ | refine CW.region ?_ | refine CW.skip ?_ | refine CW.exit ?_ | refine CW.ret ?_ | (refine thn_ret (K := K) ?_; clear hK K) | refine thn_ret ?_ | refine blk_ret ?_ | (refine thn_exit (K := K) ?_; clear hK K) | refine thn_exit ?_ | refine blk_here ?_ | refine blk_past rfl ?_ | refine thn_norm ?_ | refine blk_norm ?_ | refine CW.condT rfl ?_ | refine CW.condF rfl ?_ | (refine hK _ _ ?_; clear hK K))
        refine CW.held2 17 (fun _ => False) (fun b => ∃ a, RA = some a ∧ a.block = b) (.take 0 (.take 1 (.take 2 (.take 3 (.take 4 (.take 5 (.take 6 (.take 7 (.take 8 (.take 9 (.take 10 (.take 11 (.take 12 (.take 13 (.take 14 (.take 15 (.take 16 (.one 17 .nil)))))))))))))))))) (fun _ h => h.elim) rfl (by kernel_rfl) (by kernel_rfl) (fun w3 g3 => ?_)
        repeat (first | refine AL2.autoU (hn := ?_) | refine AL2.auto (hn := ?_) | refine AL2.gskip rfl rfl rfl rfl rfl ?_ | refine AL2.goneSkip rfl rfl rfl rfl rfl rfl ?_ | refine AL2.gskipU rfl rfl rfl rfl rfl ?_ | refine AL2.goneSkipU rfl rfl rfl rfl rfl rfl ?_ | refine AL2.gautoU (hn := ?_) | refine AL2.gauto (hn := ?_) | refine AL2.oauto (hn := ?_))
        refine AL2.takeU rfl rfl rfl (fun w hg => OpW.indexAddr i rfl rfl rfl hil q4 q5 ⟨rfl, rfl⟩) ?_
        repeat (first | refine AL2.autoU (hn := ?_) | refine AL2.auto (hn := ?_) | refine AL2.gskip rfl rfl rfl rfl rfl ?_ | refine AL2.goneSkip rfl rfl rfl rfl rfl rfl ?_ | refine AL2.gskipU rfl rfl rfl rfl rfl ?_ | refine AL2.goneSkipU rfl rfl rfl rfl rfl rfl ?_ | refine AL2.gautoU (hn := ?_) | refine AL2.gauto (hn := ?_) | refine AL2.oauto (hn := ?_))
        refine AL2.takeU rfl rfl rfl (fun w hg => OpW.sliceHi n.toNat rfl rfl (by omega) (by have := q3.le; omega) ⟨rfl, rfl⟩) ?_
        refine AL2.takeU rfl rfl rfl (fun w hg => OpW.indexAddr i rfl rfl rfl hil q4 q5 ⟨rfl, rfl⟩) ?_
        repeat (first | refine AL2.autoU (hn := ?_) | refine AL2.auto (hn := ?_) | refine AL2.gskip rfl rfl rfl rfl rfl ?_ | refine AL2.goneSkip rfl rfl rfl rfl rfl rfl ?_ | refine AL2.gskipU rfl rfl rfl rfl rfl ?_ | refine AL2.goneSkipU rfl rfl rfl rfl rfl rfl ?_ | refine AL2.gautoU (hn := ?_) | refine AL2.gauto (hn := ?_) | refine AL2.oauto (hn := ?_))
        refine AL2.last0 rfl rfl ?_
        refine OpW.storeOwnK (q := i * 3 + 1) (v := .slice DA n.toNat cap) rfl rfl rfl (h2.own.grow g3) (by omega) (fun w4 o4 c4 _ => ⟨fun h => (h.mono fun k _ hk => hk.elim).andThen c4, ?_⟩)
        repeat (first | refine AL.nil ?_ | refine AL.auto (hn := ?_) | refine AL.gskip rfl rfl rfl rfl rfl ?_ | refine AL.goneSkip rfl rfl rfl rfl rfl ?_ | refine AL.gauto (hn := ?_) | refine AL.oauto (hn := ?_))
        have C24 := Grow.chg g3 c4
        have hlt : (f.data.take n.toNat).length = n.toNat := by simp; omega
        have dz : ∀ b, tag b = .rdata i → ¬ (∃ a, RA = some a ∧ a.block = b) := by
          rintro b hb ⟨a, ha, rfl⟩
          rw [(h2.own.in_ ha).1] at hb; cases hb
        have o3 := (q3.cut n.toNat cap (by omega) (by have := q3.le; omega) (Nat.le_refl _)).keep C24 dz
        rw [Nat.mul_one, bvs_take] at o3
        have h4 := h2.setFile (c := 1) (f' := { f with data := f.data.take n.toNat }) (DA := DA) (cap := cap) hi C24 (fun b hb => Or.inl hb) (by decide) o4 (by rw [q6]; simp only [List.set_cons_succ, List.set_cons_zero, hlt]) (by
          show Own w4 DA 5 1 (f.data.take n.toNat).length cap _ _
          rw [hlt]; exact o3)
        have hi4 : ({ d1 with files := d1.files.set i { f with data := f.data.take n.toNat } } : PD).files[i]? = some { f with data := f.data.take n.toNat } := List.getElem?_set_self hil
        have hil4 : i < ({ d1 with files := d1.files.set i { f with data := f.data.take n.toNat } } : PD).files.length := by simpa using hil
        have hb4 := h4.blk
        obtain ⟨DA4, cap4, y0, y1, y2, y3, y4, y5, y6⟩ := h4.at_ hi4
        have hsl4 := h4.own.sl
        clear hsl hb2 hb q0 q1 q2 
        repeat (first | refine WL.nil ?_ | refine WL.auto (h := ?_) | refine WL.gskip rfl rfl rfl rfl ?_ | refine WL.gskipU rfl rfl rfl rfl ?_ | refine WL.gauto (h := ?_) | (refine CW.seq ?_; intro K hK) | refine CW.block ?_ | refine CW.region ?_ | refine CW.skip ?_ | refine CW.exit ?_ | refine CW.ret ?_ | (refine thn_ret (K := K) ?_; clear hK K) | refine thn_ret ?_ | refine blk_ret ?_ | (refine thn_exit (K := K) ?_; clear hK K) | refine thn_exit ?_ | refine blk_here ?_ | refine blk_past rfl ?_ | refine thn_norm ?_ | refine blk_norm ?_ | refine CW.condT rfl ?_ | refine CW.condF rfl ?_ | (refine hK _ _ ?_; clear hK K))
        refine CW.held2 17 (fun _ => False) (fun b => ∃ a, RA = some a ∧ a.block = b) (.take 0 (.take 1 (.take 2 (.take 3 (.take 4 (.take 5 (.take 6 (.take 7 (.take 8 (.take 9 (.take 10 (.take 11 (.take 12 (.take 13 (.take 14 (.take 15 (.take 16 (.one 17 .nil)))))))))))))))))) (fun _ h => h.elim) rfl (by kernel_rfl) (by kernel_rfl) (fun w5 g5 => ?_)
        repeat (first | refine AL2.autoU (hn := ?_) | refine AL2.auto (hn := ?_) | refine AL2.gskip rfl rfl rfl rfl rfl ?_ | refine AL2.goneSkip rfl rfl rfl rfl rfl rfl ?_ | refine AL2.gskipU rfl rfl rfl rfl rfl ?_ | refine AL2.goneSkipU rfl rfl rfl rfl rfl rfl ?_ | refine AL2.gautoU (hn := ?_) | refine AL2.gauto (hn := ?_) | refine AL2.oauto (hn := ?_))
        refine AL2.takeU rfl rfl rfl (fun w hg => OpW.indexAddr i rfl rfl rfl hil4 y4 y5 ⟨rfl, rfl⟩) ?_
        repeat (first | refine AL2.autoU (hn := ?_) | refine AL2.auto (hn := ?_) | refine AL2.gskip rfl rfl rfl rfl rfl ?_ | refine AL2.goneSkip rfl rfl rfl rfl rfl rfl ?_ | refine AL2.gskipU rfl rfl rfl rfl rfl ?_ | refine AL2.goneSkipU rfl rfl rfl rfl rfl rfl ?_ | refine AL2.gautoU (hn := ?_) | refine AL2.gauto (hn := ?_) | refine AL2.oauto (hn := ?_))
        refine AL2.takeU rfl rfl rfl (fun w hg => OpW.indexAddr i rfl rfl rfl hil4 y4 y5 ⟨rfl, rfl⟩) ?_
        repeat (first | refine AL2.autoU (hn := ?_) | refine AL2.auto (hn := ?_) | refine AL2.gskip rfl rfl rfl rfl rfl ?_ | refine AL2.goneSkip rfl rfl rfl rfl rfl rfl ?_ | refine AL2.gskipU rfl rfl rfl rfl rfl ?_ | refine AL2.goneSkipU rfl rfl rfl rfl rfl rfl ?_ | refine AL2.gautoU (hn := ?_) | refine AL2.gauto (hn := ?_) | refine AL2.oauto (hn := ?_))
        have hm : (if n < (f.safe : Int) then n else (f.safe : Int)) = ((min f.safe n.toNat : Nat) : Int) := by split <;> omega
        refine AL2.last0 rfl rfl ?_
        refine OpW.storeOwnK (q := i * 3 + 2) (v := .int .i64 ((min f.safe n.toNat : Nat) : Int)) rfl (congrArg (Value.int .i64) hm) rfl (h4.own.grow g5) (by omega) (fun w6 o6 c6 _ => ⟨fun h => (h.mono fun k _ hk => hk.elim).andThen c6, ?_⟩)
        repeat (first | refine AL.nil ?_ | refine AL.auto (hn := ?_) | refine AL.gskip rfl rfl rfl rfl rfl ?_ | refine AL.goneSkip rfl rfl rfl rfl rfl ?_ | refine AL.gauto (hn := ?_) | refine AL.oauto (hn := ?_))
        repeat (first | refine WL.nil ?_ | refine WL.auto (h := ?_) | refine WL.gskip rfl rfl rfl rfl ?_ | refine WL.gauto (h := ?_) | (refine CW.seq ?_; intro K hK) | refine CW.block ?_ | refine CW.region ?_ | refine CW.skip ?_ | refine CW.exit ?_ | refine CW.ret ?_ | (refine thn_ret (K := K) ?_; clear hK K) | refine thn_ret ?_ | refine blk_ret ?_ | (refine thn_exit (K := K) ?_; clear hK K) | refine thn_exit ?_ | refine blk_here ?_ | refine blk_past rfl ?_ | refine thn_norm ?_ | refine blk_norm ?_ | refine CW.condT rfl ?_ | refine CW.condF rfl ?_ | (refine hK _ _ ?_; clear hK K))
        refine out1 (v := .int .i64 0) Try.results85 rfl ?_ (Or.inr rfl)
        rw [e1]
        have C46 := Grow.chg g5 c6
        have h6 := h4.setFile (c := 2) (f' := { f with data := f.data.take n.toNat, safe := min f.safe n.toNat }) (DA := DA4) (cap := cap4) hi4 C46 (fun b hb => Or.inl hb) (by decide) o6 (by rw [y6]; rfl) (y3.keep C46 dz)
        have hss : (d1.files.set i { f with data := f.data.take n.toNat }).set i { f with data := f.data.take n.toNat, safe := min f.safe n.toNat } = d1.files.set i { f with data := f.data.take n.toNat, safe := min f.safe n.toNat } := by simp
        refine ⟨rfl, ⟨RA, rcap, (cells.set (i * 3 + 1) (.slice DA n.toNat cap)).set (i * 3 + 2) (.int .i64 ((min f.safe n.toNat : Nat) : Int)), ?_⟩, (t1.grow g2).andThen ((C24.andThen C46).mono fun k _ hk => ?_)⟩
        · have h7 := h6
          simp only [hss] at h7
          exact h7
        · obtain ⟨a, ha, rfl⟩ := hk
          rw [(h2.own.in_ ha).1]; rfl
    · have e1 : d.truncate s n = (51, d1) := by unfold PD.truncate; rw [hbg]; simp only; rw [if_pos (by simp)]
      repeat (first | refine WL.nil ?_ | refine WL.auto (h := ?_) | refine WL.gskip rfl rfl rfl rfl ?_ | refine WL.gskipU rfl rfl rfl rfl ?_ | refine WL.gauto (h := ?_) | (refine CW.seq ?_; intro K hK) | refine CW.block ?_ | refine CW.region ?_ | refine CW.skip ?_ | refine CW.exit ?_ | refine CW.ret ?_ | (refine thn_ret (K := K) ?_; clear hK K) | refine thn_ret ?_ | refine blk_ret ?_ | (refine thn_exit (K := K) ?_; clear hK K) | refine thn_exit ?_ | refine blk_here ?_ | refine blk_past rfl ?_ | refine thn_norm ?_ | refine blk_norm ?_ | refine CW.condT rfl ?_ | refine CW.condF rfl ?_ | (refine hK _ _ ?_; clear hK K))
      refine out1 (v := .int .i64 51) Try.results85 rfl ?_ (Or.inr rfl)
      rw [e1]
      exact ⟨rfl, ⟨_, _, _, h1⟩, t1⟩
end B
end Go.Proofs.Ytlofcomnhecgfaa
/- Load of the document's disk; Same. Sizes are bounded. -/
namespace Go.Proofs.Ytlofcomnhecgfaa
namespace B
attribute [local irreducible] OpW WL CW Ret Sl Blk thn blk outOf
set_option linter.unusedVariables false
set_option linter.unusedSimpArgs false
set_option maxRecDepth 4000

def LoadedR (tag : Nat → Tag) (w w' : World) (v : Value) : Option (List PF) → Prop
  | none => ∃ mb, v = .tuple #[.pointer (some ⟨mb, 0, none⟩), .int .i64 50]
  | some l => ∃ mb tag', v = .tuple #[.pointer (some ⟨mb, 0, none⟩), .int .i64 0] ∧ (∀ k, k < w.heap.size → tag' k = tag k) ∧ RefRep tag' w' mb ⟨l, false, 0⟩
theorem loadGo_long : ∀ (l : List (List UInt8 × List UInt8)) (acc : List PF), acc.length ≤ 16 → 16 < acc.length + l.length → loadGo acc l = none := by
  intro l
  induction l with
  | nil => intro acc h1 h2; simp at h2; omega
  | cons x l ih =>
    intro acc h1 h2
    rw [loadGo]
    split
    · rfl
    · rename_i h3
      refine ih _ ?_ ?_
      · simp; have : acc.length ≠ 16 := fun e => h3 (Or.inr (Or.inr e)); omega
      · simp only [List.length_append, List.length_cons, List.length_nil] at h2 ⊢; omega
theorem rload36 (tag : Nat → Tag) (A : Option Addr) (cap : Nat) (xs : List (List UInt8 × List UInt8)) (Z : Nat → Prop) (w : World) (hx : FilesIn w A xs Z) (hl : xs.length ≤ 1099511627776) (hs : ∀ x ∈ xs, x.1.length ≤ 1099511627776 ∧ x.2.length ≤ 1099511627776) :
    Ret Try.prog 36 #[.slice A xs.length cap] w fun v w' => Grow w w' ∧ LoadedR tag w w' v (loadGo [] xs) := by
  refine Ret.enter (fn := Try.f36) (N := 51) Try.func36 rfl Try.ntmps36 rfl ?_
  repeat (first | refine WL.nil ?_ | refine WL.auto (h := ?_) | refine WL.gskip rfl rfl rfl rfl ?_ | refine WL.gauto (h := ?_) | (refine CW.seq ?_; intro K hK) | refine CW.block ?_ | refine CW.region ?_ | refine CW.skip ?_ | refine CW.exit ?_ | refine CW.ret ?_ | (refine thn_ret (K := K) ?_; clear hK K) | refine thn_ret ?_ | refine blk_ret ?_ | (refine thn_exit (K := K) ?_; clear hK K) | refine thn_exit ?_ | refine blk_here ?_ | refine blk_past rfl ?_ | refine thn_norm ?_ | refine blk_norm ?_ | refine CW.condT rfl ?_ | refine CW.condF rfl ?_ | (refine hK _ _ ?_; clear hK K))
  first | refine WL.step rfl ?_ | refine WL.gstep rfl rfl rfl rfl ?_
  refine OpW.call ((new59 w).mono ?_) rfl
  rintro v w1 ⟨mb, rfl, n1⟩
  have d1 : RefAt (fun b => if b < w.heap.size then tag b else .rdisk) w1 mb none 0 [] ⟨[], false, 0⟩ :=
    ⟨by show (if _ then _ else _) = _; rw [if_neg (by have := n1.fresh; omega)], n1.blk, Own.nil _ _ _ _, fun i f h => by simp at h⟩
  have g1 := n1.grow
  repeat (first | refine WL.nil ?_ | refine WL.auto (h := ?_) | refine WL.gskip rfl rfl rfl rfl ?_ | refine WL.gauto (h := ?_) | (refine CW.seq ?_; intro K hK) | refine CW.block ?_ | refine CW.region ?_ | refine CW.skip ?_ | refine CW.exit ?_ | refine CW.ret ?_ | (refine thn_ret (K := K) ?_; clear hK K) | refine thn_ret ?_ | refine blk_ret ?_ | (refine thn_exit (K := K) ?_; clear hK K) | refine thn_exit ?_ | refine blk_here ?_ | refine blk_past rfl ?_ | refine thn_norm ?_ | refine blk_norm ?_ | refine CW.condT rfl ?_ | refine CW.condF rfl ?_ | (refine hK _ _ ?_; clear hK K))
  by_cases h16 : 16 < xs.length
  · rw [decide_eq_true (p := (16 : Int) < (xs.length : Int)) (by omega)]
    repeat (first | refine WL.nil ?_ | refine WL.auto (h := ?_) | refine WL.gskip rfl rfl rfl rfl ?_ | refine WL.gauto (h := ?_) | (refine CW.seq ?_; intro K hK) | refine CW.block ?_ | refine CW.region ?_ | refine CW.skip ?_ | refine CW.exit ?_ | refine CW.ret ?_ | (refine thn_ret (K := K) ?_; clear hK K) | refine thn_ret ?_ | refine blk_ret ?_ | (refine thn_exit (K := K) ?_; clear hK K) | refine thn_exit ?_ | refine blk_here ?_ | refine blk_past rfl ?_ | refine thn_norm ?_ | refine blk_norm ?_ | refine CW.condT rfl ?_ | refine CW.condF rfl ?_ | (refine hK _ _ ?_; clear hK K))
    refine out2 (v1 := .pointer (some ⟨mb, 0, none⟩)) (v2 := .int .i64 50) Try.results36 rfl rfl ⟨g1, ?_⟩ (Or.inr rfl)
    rw [loadGo_long xs [] (by simp) (by simpa using h16)]
    exact ⟨mb, rfl⟩
  rw [decide_eq_false (p := (16 : Int) < (xs.length : Int)) (by omega)]
  repeat (first | refine WL.nil ?_ | refine WL.auto (h := ?_) | refine WL.gskip rfl rfl rfl rfl ?_ | refine WL.gauto (h := ?_) | (refine CW.seq ?_; intro K hK) | refine CW.block ?_ | refine CW.region ?_ | refine CW.skip ?_ | refine CW.exit ?_ | refine CW.ret ?_ | (refine thn_ret (K := K) ?_; clear hK K) | refine thn_ret ?_ | refine blk_ret ?_ | (refine thn_exit (K := K) ?_; clear hK K) | refine thn_exit ?_ | refine blk_here ?_ | refine blk_past rfl ?_ | refine thn_norm ?_ | refine blk_norm ?_ | refine CW.condT rfl ?_ | refine CW.condF rfl ?_ | (refine hK _ _ ?_; clear hK K))
  refine CW.loop (fun n' e w2 => ∃ (k : Nat) (acc : List PF) (tag' : Nat → Tag) (RA : Option Addr) (rcap : Nat) (rc : List Value), k ≤ xs.length ∧ n' = xs.length - k ∧ loadGo [] xs = loadGo acc (xs.drop k) ∧ acc.length = k ∧ Grow w w2 ∧ (∀ j, j < w.heap.size → tag' j = tag j) ∧ RefAt tag' w2 mb RA rcap rc ⟨acc, false, 0⟩ ∧ w.heap.size ≤ mb ∧
    (∀ a, RA = some a → w.heap.size ≤ a.block) ∧ ∃ e0, e = upd (upd (upd (upd e0 4 (.pointer (some ⟨mb, 0, none⟩))) 12 (.slice A xs.length cap)) 13 (.int .i64 xs.length)) 14 (.int .i64 k)) xs.length ?_ ?_
  · exact ⟨0, [], _, none, 0, [], by omega, rfl, rfl, rfl, g1, fun j hj => if_pos hj, d1, n1.fresh, fun a ha => (by cases ha), rep4 rfl rfl rfl rfl⟩
  clear d1 g1 n1
  rintro n' e w2 ⟨k, acc, tag', RA, rcap, rc, hk, rfl, hgo, hal, g2, ht, hd, hdb, hFA, e0, rfl⟩ KJ hJ
  repeat (first | refine WL.nil ?_ | refine WL.auto (h := ?_) | refine WL.gskip rfl rfl rfl rfl ?_ | refine WL.gauto (h := ?_) | (refine CW.seq ?_; intro K hK) | refine CW.block ?_ | refine CW.region ?_ | refine CW.skip ?_ | refine CW.exit ?_ | refine CW.ret ?_ | (refine thn_ret (K := K) ?_; clear hK K) | refine thn_ret ?_ | refine blk_ret ?_ | (refine thn_exit (K := K) ?_; clear hK K) | refine thn_exit ?_ | refine blk_here ?_ | refine blk_past rfl ?_ | refine thn_norm ?_ | refine blk_norm ?_ | refine CW.condT rfl ?_ | refine CW.condF rfl ?_ | (refine hK _ _ ?_; clear hK K))
  refine CW.condP rfl (fun h2 => ?_) (fun h2 => ?_)
  · have hkl : k < xs.length := by omega
    have hx2 := hx.grow g2
    obtain ⟨cells, q1, q2, q3, q4⟩ := hx2
    obtain ⟨DA, dcap, k1, k2, k3, k4⟩ := q4 k xs[k] (List.getElem?_eq_getElem hkl)
    have hdrop : xs.drop k = xs[k] :: xs.drop (k + 1) := List.drop_eq_getElem_cons hkl
    rw [hdrop] at hgo
    obtain ⟨hs1, hs2⟩ := hs xs[k] (List.getElem_mem hkl)
    generalize xs[k] = x at *
    obtain ⟨nm, bs⟩ := x
    simp only at k1 k2 k4 hs1 hs2
    have hlt : k * 2 < cells.length := by omega
    repeat (first | refine WL.nil ?_ | refine WL.auto (h := ?_) | refine WL.gskip rfl rfl rfl rfl ?_ | refine WL.gauto (h := ?_) | (refine CW.seq ?_; intro K hK) | refine CW.block ?_ | refine CW.region ?_ | refine CW.skip ?_ | refine CW.exit ?_ | refine CW.ret ?_ | (refine thn_ret (K := K) ?_; clear hK K) | refine thn_ret ?_ | refine blk_ret ?_ | (refine thn_exit (K := K) ?_; clear hK K) | refine thn_exit ?_ | refine blk_here ?_ | refine blk_past rfl ?_ | refine thn_norm ?_ | refine blk_norm ?_ | refine CW.condT rfl ?_ | refine CW.condF rfl ?_ | (refine hK _ _ ?_; clear hK K))
    first | refine WL.step rfl ?_ | refine WL.gstep rfl rfl rfl rfl ?_
    refine OpW.indexAddr k rfl rfl rfl hkl (sl_ne q1 hlt) (sl_sp q1 hlt) ?_
    repeat (first | refine WL.nil ?_ | refine WL.auto (h := ?_) | refine WL.gskip rfl rfl rfl rfl ?_ | refine WL.gauto (h := ?_) | (refine CW.seq ?_; intro K hK) | refine CW.block ?_ | refine CW.region ?_ | refine CW.skip ?_ | refine CW.exit ?_ | refine CW.ret ?_ | (refine thn_ret (K := K) ?_; clear hK K) | refine thn_ret ?_ | refine blk_ret ?_ | (refine thn_exit (K := K) ?_; clear hK K) | refine thn_exit ?_ | refine blk_here ?_ | refine blk_past rfl ?_ | refine thn_norm ?_ | refine blk_norm ?_ | refine CW.condT rfl ?_ | refine CW.condF rfl ?_ | (refine hK _ _ ?_; clear hK K))
    first | refine WL.step rfl ?_ | refine WL.gstep rfl rfl rfl rfl ?_
    refine OpW.loadAggS _ rfl q1 k1 rfl (by decide) ?_
    repeat (first | refine WL.nil ?_ | refine WL.auto (h := ?_) | refine WL.gskip rfl rfl rfl rfl ?_ | refine WL.gauto (h := ?_) | (refine CW.seq ?_; intro K hK) | refine CW.block ?_ | refine CW.region ?_ | refine CW.skip ?_ | refine CW.exit ?_ | refine CW.ret ?_ | (refine thn_ret (K := K) ?_; clear hK K) | refine thn_ret ?_ | refine blk_ret ?_ | (refine thn_exit (K := K) ?_; clear hK K) | refine thn_exit ?_ | refine blk_here ?_ | refine blk_past rfl ?_ | refine thn_norm ?_ | refine blk_norm ?_ | refine CW.condT rfl ?_ | refine CW.condF rfl ?_ | (refine hK _ _ ?_; clear hK K))
    first | refine WL.step rfl ?_ | refine WL.gstep rfl rfl rfl rfl ?_
    refine OpW.alloc (fun b3 w3 n3 => ?_)
    repeat (first | refine WL.nil ?_ | refine WL.auto (h := ?_) | refine WL.gskip rfl rfl rfl rfl ?_ | refine WL.gauto (h := ?_) | (refine CW.seq ?_; intro K hK) | refine CW.block ?_ | refine CW.region ?_ | refine CW.skip ?_ | refine CW.exit ?_ | refine CW.ret ?_ | (refine thn_ret (K := K) ?_; clear hK K) | refine thn_ret ?_ | refine blk_ret ?_ | (refine thn_exit (K := K) ?_; clear hK K) | refine thn_exit ?_ | refine blk_here ?_ | refine blk_past rfl ?_ | refine thn_norm ?_ | refine blk_norm ?_ | refine CW.condT rfl ?_ | refine CW.condF rfl ?_ | (refine hK _ _ ?_; clear hK K))
    refine WL.step0 ?_
    refine OpW.storeAll rfl rfl rfl n3.blk rfl rfl (fun w4 p4 hb => ?_)
    have g4 : Grow w2 w4 := n3.grow.chgNew p4.chg (fun i hi h => by subst h; have := n3.fresh; omega)
    have hd4 := hd.grow g4
    have hf3 := n3.fresh
    have k24 := k2.grow g4
    repeat (first | refine WL.nil ?_ | refine WL.auto (h := ?_) | refine WL.gskip rfl rfl rfl rfl ?_ | refine WL.gauto (h := ?_) | (refine CW.seq ?_; intro K hK) | refine CW.block ?_ | refine CW.region ?_ | refine CW.skip ?_ | refine CW.exit ?_ | refine CW.ret ?_ | (refine thn_ret (K := K) ?_; clear hK K) | refine thn_ret ?_ | refine blk_ret ?_ | (refine thn_exit (K := K) ?_; clear hK K) | refine thn_exit ?_ | refine blk_here ?_ | refine blk_past rfl ?_ | refine thn_norm ?_ | refine blk_norm ?_ | refine CW.condT rfl ?_ | refine CW.condF rfl ?_ | (refine hK _ _ ?_; clear hK K))
    first | refine WL.step rfl ?_ | refine WL.gstep rfl rfl rfl rfl ?_
    refine OpW.call ((right74 nm w4 (by omega)).mono ?_) rfl
    rintro v w5 ⟨rfl, g5⟩
    have hd5 := hd4.grow g5
    replace hb := hb.grow g5
    have k25 := k24.grow g5
    have g25 := g4.then g5
    clear hd4
    cases hrn : rightName nm with
    | false =>
      repeat (first | refine WL.nil ?_ | refine WL.auto (h := ?_) | refine WL.gskip rfl rfl rfl rfl ?_ | refine WL.gskipU rfl rfl rfl rfl ?_ | refine WL.gauto (h := ?_) | (refine CW.seq ?_; intro K hK) | refine CW.block ?_ | refine CW.region ?_ | refine CW.skip ?_ | refine CW.exit ?_ | refine CW.ret ?_ | (refine thn_ret (K := K) ?_; clear hK K) | refine thn_ret ?_ | refine blk_ret ?_ | (refine thn_exit (K := K) ?_; clear hK K) | refine thn_exit ?_ | refine blk_here ?_ | refine blk_past rfl ?_ | refine thn_norm ?_ | refine blk_norm ?_ | refine CW.condT rfl ?_ | refine CW.condF rfl ?_ | (refine hK _ _ ?_; clear hK K))
      refine out2 (v1 := .pointer (some ⟨mb, 0, none⟩)) (v2 := .int .i64 50) Try.results36 rfl rfl ⟨g2.then g25, ?_⟩ (Or.inr rfl)
      rw [hgo, loadGo, if_pos (Or.inl hrn)]
      exact ⟨mb, rfl⟩
    | true =>
      repeat (first | refine WL.nil ?_ | refine WL.auto (h := ?_) | refine WL.gskip rfl rfl rfl rfl ?_ | refine WL.gskipU rfl rfl rfl rfl ?_ | refine WL.gauto (h := ?_) | (refine CW.seq ?_; intro K hK) | refine CW.block ?_ | refine CW.region ?_ | refine CW.skip ?_ | refine CW.exit ?_ | refine CW.ret ?_ | (refine thn_ret (K := K) ?_; clear hK K) | refine thn_ret ?_ | refine blk_ret ?_ | (refine thn_exit (K := K) ?_; clear hK K) | refine thn_exit ?_ | refine blk_here ?_ | refine blk_past rfl ?_ | refine thn_norm ?_ | refine blk_norm ?_ | refine CW.condT rfl ?_ | refine CW.condF rfl ?_ | (refine hK _ _ ?_; clear hK K))
      first | refine WL.step rfl ?_ | refine WL.gstep rfl rfl rfl rfl ?_
      refine OpW.call ((find75 tag' mb RA rcap rc _ nm w5 hd5 (by show acc.length ≤ _; omega)).mono ?_) rfl
      rintro v w6 ⟨g6, rfl⟩
      have hix : decide (0 ≤ ixInt (PD.ix ⟨acc, false, 0⟩ nm)) = (PD.ix ⟨acc, false, 0⟩ nm).isSome := by
        cases (PD.ix ⟨acc, false, 0⟩ nm) with
        | none => rfl
        | some i => exact decide_eq_true (by show (0 : Int) ≤ (i : Int); omega)
      cases hxn : PD.ix ⟨acc, false, 0⟩ nm with
      | some i =>
        rw [hxn] at hix
        repeat (first | refine WL.nil ?_ | refine WL.auto (h := ?_) | refine WL.gskip rfl rfl rfl rfl ?_ | refine WL.gskipU rfl rfl rfl rfl ?_ | refine WL.gauto (h := ?_) | (refine CW.seq ?_; intro K hK) | refine CW.block ?_ | refine CW.region ?_ | refine CW.skip ?_ | refine CW.exit ?_ | refine CW.ret ?_ | (refine thn_ret (K := K) ?_; clear hK K) | refine thn_ret ?_ | refine blk_ret ?_ | (refine thn_exit (K := K) ?_; clear hK K) | refine thn_exit ?_ | refine blk_here ?_ | refine blk_past rfl ?_ | refine thn_norm ?_ | refine blk_norm ?_ | refine CW.condT rfl ?_ | refine CW.condF rfl ?_ | (refine hK _ _ ?_; clear hK K))
        rw [show decide ((0 : Int) ≤ ixInt (some i)) = true from hix]
        repeat (first | refine WL.nil ?_ | refine WL.auto (h := ?_) | refine WL.gskip rfl rfl rfl rfl ?_ | refine WL.gskipU rfl rfl rfl rfl ?_ | refine WL.gauto (h := ?_) | (refine CW.seq ?_; intro K hK) | refine CW.block ?_ | refine CW.region ?_ | refine CW.skip ?_ | refine CW.exit ?_ | refine CW.ret ?_ | (refine thn_ret (K := K) ?_; clear hK K) | refine thn_ret ?_ | refine blk_ret ?_ | (refine thn_exit (K := K) ?_; clear hK K) | refine thn_exit ?_ | refine blk_here ?_ | refine blk_past rfl ?_ | refine thn_norm ?_ | refine blk_norm ?_ | refine CW.condT rfl ?_ | refine CW.condF rfl ?_ | (refine hK _ _ ?_; clear hK K))
        refine out2 (v1 := .pointer (some ⟨mb, 0, none⟩)) (v2 := .int .i64 50) Try.results36 rfl rfl ⟨g2.then (g25.then g6), ?_⟩ (Or.inr rfl)
        rw [hgo, loadGo, if_pos (Or.inr (Or.inl (by rw [hxn]; rfl)))]
        exact ⟨mb, rfl⟩
      | none =>
        have hd6 := hd5.grow g6
        have hb6 := hd6.blk
        replace hb := hb.grow g6
        have k26 := k25.grow g6
        have g26 := g25.then g6
        clear hd5
        repeat (first | refine WL.nil ?_ | refine WL.auto (h := ?_) | refine WL.gskip rfl rfl rfl rfl ?_ | refine WL.gskipU rfl rfl rfl rfl ?_ | refine WL.gauto (h := ?_) | (refine CW.seq ?_; intro K hK) | refine CW.block ?_ | refine CW.region ?_ | refine CW.skip ?_ | refine CW.exit ?_ | refine CW.ret ?_ | (refine thn_ret (K := K) ?_; clear hK K) | refine thn_ret ?_ | refine blk_ret ?_ | (refine thn_exit (K := K) ?_; clear hK K) | refine thn_exit ?_ | refine blk_here ?_ | refine blk_past rfl ?_ | refine thn_norm ?_ | refine blk_norm ?_ | refine CW.condT rfl ?_ | refine CW.condF rfl ?_ | (refine hK _ _ ?_; clear hK K))
        have hne1 : ¬ (∃ a, RA = some a ∧ a.block = mb) := by
          rintro ⟨a, ha, e⟩
          have := (hd6.own.in_ ha).1
          rw [e, hd6.tg] at this; cases this
        have hne2 : ¬ (∃ a, RA = some a ∧ a.block = b3) := by
          rintro ⟨a, ha, e⟩
          have := (hd.own.in_ ha).2
          omega
        have dlt : mb < w2.heap.size := hd.blk.lt
        refine CW.held2 19 (fun b => ∃ a, RA = some a ∧ a.block = b) (fun b => b = mb ∨ ∃ a, RA = some a ∧ a.block = b) (.take 0 (.take 1 (.take 2 (.take 3 (.take 4 (.take 5 (.take 6 (.take 8 (.take 9 (.take 11 (.take 12 (.take 13 (.one 7 (.one 10 (.one 14 (.one 15 (.one 16 (.take 17 (.take 18 (.one 19 .nil)))))))))))))))))))) (fun _ h => Or.inr h) rfl (by kernel_rfl) (by kernel_rfl) (fun w7 g7 => ?_)
        repeat (first | refine AL2.autoU (hn := ?_) | refine AL2.auto (hn := ?_) | refine AL2.gskip rfl rfl rfl rfl rfl ?_ | refine AL2.goneSkip rfl rfl rfl rfl rfl rfl ?_ | refine AL2.gskipU rfl rfl rfl rfl rfl ?_ | refine AL2.goneSkipU rfl rfl rfl rfl rfl rfl ?_ | refine AL2.gautoU (hn := ?_) | refine AL2.gauto (hn := ?_) | refine AL2.oauto (hn := ?_))
        first | refine AL2.one rfl rfl rfl ?_ | refine AL2.gone rfl rfl rfl rfl rfl rfl ?_
        refine OpW.buildNone (fun b8 w8 n8 => ?_)
        refine ⟨fun h => h.grow n8.grow, ?_⟩
        repeat (first | refine AL2.autoU (hn := ?_) | refine AL2.auto (hn := ?_) | refine AL2.gskip rfl rfl rfl rfl rfl ?_ | refine AL2.goneSkip rfl rfl rfl rfl rfl rfl ?_ | refine AL2.gskipU rfl rfl rfl rfl rfl ?_ | refine AL2.goneSkipU rfl rfl rfl rfl rfl rfl ?_ | refine AL2.gautoU (hn := ?_) | refine AL2.gauto (hn := ?_) | refine AL2.oauto (hn := ?_))
        first | refine AL2.one rfl rfl rfl ?_ | refine AL2.gone rfl rfl rfl rfl rfl rfl ?_
        refine OpW.appB (w0 := w7) (l := []) (m := bs) rfl rfl rfl rfl rfl rfl (Own.empty n8) ((k26.grow g7).grow n8.grow) n8.grow (by simp; omega) (fun A9 c9 w9 o9 g9 c9' => ?_)
        rw [List.nil_append] at o9 ⊢
        refine ⟨fun h => h.trans c9' (by
          rintro i hi ⟨a, ha, e⟩
          cases ha
          have h7 := n8.fresh
          have h8 := g7.size
          simp only at e
          omega), ?_⟩
        repeat (first | refine AL2.autoU (hn := ?_) | refine AL2.auto (hn := ?_) | refine AL2.gskip rfl rfl rfl rfl rfl ?_ | refine AL2.goneSkip rfl rfl rfl rfl rfl rfl ?_ | refine AL2.gskipU rfl rfl rfl rfl rfl ?_ | refine AL2.goneSkipU rfl rfl rfl rfl rfl rfl ?_ | refine AL2.gautoU (hn := ?_) | refine AL2.gauto (hn := ?_) | refine AL2.oauto (hn := ?_))
        first | refine AL2.one rfl rfl rfl ?_ | refine AL2.gone rfl rfl rfl rfl rfl rfl ?_
        refine OpW.build (cells := #[.string (bstr nm), .slice A9 bs.length c9, .int .i64 bs.length]) rfl rfl ⟨id, ?_⟩
        first | refine AL2.one rfl rfl rfl ?_ | refine AL2.gone rfl rfl rfl rfl rfl rfl ?_
        refine OpW.buildOne (.agg #[.string (bstr nm), .slice A9 bs.length c9, .int .i64 bs.length]) rfl rfl rfl ?_
        intro b11 w11 n11
        refine ⟨fun h => h.grow n11.grow, ?_⟩
        have g69 : Grow w6 w9 := g7.then g9
        have g611 : Grow w6 w11 := g69.then n11.grow
        first | refine AL2.one rfl rfl rfl ?_ | refine AL2.gone rfl rfl rfl rfl rfl rfl ?_
        refine OpW.append (ys := [.string (bstr nm), .slice A9 bs.length c9, .int .i64 bs.length]) rfl rfl rfl (hd6.own.grow g611) (blk_sl_lit (vs := [.string (bstr nm), .slice A9 bs.length c9, .int .i64 bs.length]) n11) rfl (one1 _ rfl) ⟨by show (acc.length + 1) * 48 ≤ _; omega, by show acc.length + 1 ≤ _; omega⟩ (fun RA' rcap' w12 o12 c12 _ => ?_)
        refine ⟨fun h => h.andThen c12, ?_⟩
        repeat (first | refine AL2.autoU (hn := ?_) | refine AL2.auto (hn := ?_) | refine AL2.gskip rfl rfl rfl rfl rfl ?_ | refine AL2.goneSkip rfl rfl rfl rfl rfl rfl ?_ | refine AL2.gskipU rfl rfl rfl rfl rfl ?_ | refine AL2.goneSkipU rfl rfl rfl rfl rfl rfl ?_ | refine AL2.gautoU (hn := ?_) | refine AL2.gauto (hn := ?_) | refine AL2.oauto (hn := ?_))
        refine AL2.last0 rfl rfl ?_
        have hb12 := (hb6.grow g611).keep c12 hne1
        refine OpW.store (v := .slice _ _ _) rfl rfl rfl hb12 rfl (c' := #[_, _, _]) rfl ?_
        intro w13 hp13 hb13
        refine ⟨fun h => (h.mono fun k _ hk => Or.inr hk).andThen (hp13.chg.mono fun k _ hk => Or.inl hk), ?_⟩
        repeat (first | refine AL.nil ?_ | refine AL.auto (hn := ?_) | refine AL.gskip rfl rfl rfl rfl rfl ?_ | refine AL.goneSkip rfl rfl rfl rfl rfl ?_ | refine AL.gauto (hn := ?_) | refine AL.oauto (hn := ?_))
        repeat (first | refine WL.nil ?_ | refine WL.auto (h := ?_) | refine WL.gskip rfl rfl rfl rfl ?_ | refine WL.gauto (h := ?_) | (refine CW.seq ?_; intro K hK) | refine CW.block ?_ | refine CW.region ?_ | refine CW.skip ?_ | refine CW.exit ?_ | refine CW.ret ?_ | (refine thn_ret (K := K) ?_; clear hK K) | refine thn_ret ?_ | refine blk_ret ?_ | (refine thn_exit (K := K) ?_; clear hK K) | refine thn_exit ?_ | refine blk_here ?_ | refine blk_past rfl ?_ | refine thn_norm ?_ | refine blk_norm ?_ | refine CW.condT rfl ?_ | refine CW.condF rfl ?_ | (refine hK _ _ ?_; clear hK K))
        have z6 : w6.heap.size ≤ w7.heap.size := g7.size
        have z7 : w7.heap.size ≤ w9.heap.size := g9.size
        have z10 : w9.heap.size ≤ w11.heap.size := n11.grow.size
        have z26 : w2.heap.size ≤ w6.heap.size := g26.size
        have z2 : w.heap.size ≤ w2.heap.size := g2.size
        have C613 : Chg (fun k => k = mb ∨ ∃ a, RA = some a ∧ a.block = k) w6 w13 := (Grow.chg g611 (c12.mono fun k _ hk => Or.inr hk)).andThen (hp13.chg.mono fun k _ hk => Or.inl hk)
        have lt9 : ∀ a, A9 = some a → w7.heap.size ≤ a.block ∧ a.block < w9.heap.size := fun a ha => ⟨(o9.in_ ha).1, (o9.in_ ha).2⟩
        have o9' := ((o9.grow n11.grow).keep c12 (by
          rintro k hk ⟨a, ha, rfl⟩
          have h7 := (hd6.own.in_ ha).2
          have h8 : w7.heap.size ≤ a.block := hk
          omega)).keep hp13.chg (by
          intro k hk e
          have h8 : w7.heap.size ≤ k := hk
          omega)
        have o12' := o12.keep hp13.chg (by
          rintro k (⟨a, ha, rfl⟩ | hk) e
          · exact hne1 ⟨a, ha, e⟩
          · omega)
        obtain ⟨tag2, ht2, hD⟩ := hd6.snoc (g := ⟨nm, bs, bs.length⟩) (fun b => decide (w9.heap.size ≤ b)) C613 hb13 (o12'.zone fun a ha => by
              rcases (o12'.in_ ha).1 with h7 | h7
              · exact Or.inl h7
              · exact Or.inr ⟨by omega, decide_eq_true (by omega)⟩) (o9'.zone fun a ha => by
            have h7 := lt9 a ha
            exact ⟨by omega, decide_eq_false (by omega)⟩)
        have gw13 : Grow w w13 := (g2.then g26).chgNew C613 (by
          rintro i hi (e | ⟨a, ha, e⟩)
          · omega
          · have := hFA a ha; omega)
        refine hJ (xs.length - (k + 1)) _ _ (by omega) ⟨k + 1, acc ++ [⟨nm, bs, bs.length⟩], tag2, RA', rcap', _, by omega, rfl, ?_, by simp [hal], gw13, fun j hj => ?_, hD, hdb, fun a ha => ?_, rep4 rfl rfl rfl (congrArg (Value.int .i64) (by omega))⟩
        · rw [hgo, loadGo, if_neg (by rw [hrn, hxn]; simp; omega)]
        · rw [ht2 j (by omega)]; exact ht j hj
        · rcases (o12.in_ ha).1 with ⟨a', h7, h8⟩ | h7
          · have := hFA a' h7; omega
          · omega
  · obtain rfl : k = xs.length := by omega
    rw [List.drop_length] at hgo
    repeat (first | refine WL.nil ?_ | refine WL.auto (h := ?_) | refine WL.gskip rfl rfl rfl rfl ?_ | refine WL.gauto (h := ?_) | (refine CW.seq ?_; intro K hK) | refine CW.block ?_ | refine CW.region ?_ | refine CW.skip ?_ | refine CW.exit ?_ | refine CW.ret ?_ | (refine thn_ret (K := K) ?_; clear hK K) | refine thn_ret ?_ | refine blk_ret ?_ | (refine thn_exit (K := K) ?_; clear hK K) | refine thn_exit ?_ | refine blk_here ?_ | refine blk_past rfl ?_ | refine thn_norm ?_ | refine blk_norm ?_ | refine CW.condT rfl ?_ | refine CW.condF rfl ?_ | (refine hK _ _ ?_; clear hK K))
    refine out2 (v1 := .pointer (some ⟨mb, 0, none⟩)) (v2 := .int .i64 0) Try.results36 rfl rfl ⟨g2, ?_⟩ (Or.inr rfl)
    rw [hgo]
    exact ⟨mb, tag', rfl, ht, RA, rcap, rc, hd⟩
end B
end Go.Proofs.Ytlofcomnhecgfaa
/- Same; Crash of the document's disk. Sizes are bounded. -/
namespace Go.Proofs.Ytlofcomnhecgfaa
namespace B
attribute [local irreducible] OpW WL CW Ret Sl Blk thn blk outOf
set_option linter.unusedVariables false
set_option linter.unusedSimpArgs false
set_option maxRecDepth 4000

theorem FilesIn.at_ {w : World} {A : Option Addr} {xs : List (List UInt8 × List UInt8)} {Z : Nat → Prop} (h : FilesIn w A xs Z) {i : Nat} {x : List UInt8 × List UInt8} (hx : xs[i]? = some x) :
    ∃ cells DA cap, Sl w A cells ∧ A ≠ none ∧ (∀ a, A = some a → a.spot = none) ∧ cells[i * 2 + 0]? = some (.string (bstr x.1)) ∧ cells[i * 2 + 1]? = some (.slice DA x.2.length cap) ∧ Sl w DA (bvs x.2) := by
  obtain ⟨cells, h1, h2, h3, h4⟩ := h
  obtain ⟨DA, cap, k1, k2, k3, k4⟩ := h4 i x hx
  have e0 : cells[i * 2 + 0]? = some (.string (bstr x.1)) := part_get (c := 0) k1 rfl
  have hl := (List.getElem?_eq_some_iff.1 e0).1
  exact ⟨cells, DA, cap, h1, sl_ne h1 hl, sl_sp h1 hl, e0, part_get (c := 1) k1 rfl, k2⟩

theorem same37 (A B : Option Addr) (c c' : Nat) (xs ys : List (List UInt8 × List UInt8)) (Z Z' : Nat → Prop) (w : World) (hx : FilesIn w A xs Z) (hy : FilesIn w B ys Z') (hl : xs.length ≤ 1099511627776) (hl' : ys.length ≤ 1099511627776) :
    Ret Try.prog 37 #[.slice A xs.length c, .slice B ys.length c'] w fun v w' => v = .bool (decide (xs = ys)) ∧ Grow w w' := by
  refine Ret.enter (fn := Try.f37) (N := 43) Try.func37 rfl Try.ntmps37 rfl ?_
  repeat (first | refine WL.nil ?_ | refine WL.auto (h := ?_) | refine WL.gskip rfl rfl rfl rfl ?_ | refine WL.gauto (h := ?_) | (refine CW.seq ?_; intro K hK) | refine CW.block ?_ | refine CW.region ?_ | refine CW.skip ?_ | refine CW.exit ?_ | refine CW.ret ?_ | (refine thn_ret (K := K) ?_; clear hK K) | refine thn_ret ?_ | refine blk_ret ?_ | (refine thn_exit (K := K) ?_; clear hK K) | refine thn_exit ?_ | refine blk_here ?_ | refine blk_past rfl ?_ | refine thn_norm ?_ | refine blk_norm ?_ | refine CW.condT rfl ?_ | refine CW.condF rfl ?_ | (refine hK _ _ ?_; clear hK K))
  by_cases hlen : xs.length = ys.length
  · rw [show decide (¬ (xs.length : Int) = (ys.length : Int)) = false from decide_eq_false (by omega)]
    repeat (first | refine WL.nil ?_ | refine WL.auto (h := ?_) | refine WL.gskip rfl rfl rfl rfl ?_ | refine WL.gauto (h := ?_) | (refine CW.seq ?_; intro K hK) | refine CW.block ?_ | refine CW.region ?_ | refine CW.skip ?_ | refine CW.exit ?_ | refine CW.ret ?_ | (refine thn_ret (K := K) ?_; clear hK K) | refine thn_ret ?_ | refine blk_ret ?_ | (refine thn_exit (K := K) ?_; clear hK K) | refine thn_exit ?_ | refine blk_here ?_ | refine blk_past rfl ?_ | refine thn_norm ?_ | refine blk_norm ?_ | refine CW.condT rfl ?_ | refine CW.condF rfl ?_ | (refine hK _ _ ?_; clear hK K))
    refine CW.loop (fun n' e w2 => ∃ k, k ≤ xs.length ∧ n' = xs.length - k ∧ (∀ i, i < k → xs[i]? = ys[i]?) ∧ Grow w w2 ∧ ∃ e0, e = upd (upd (upd (upd e0 0 (.slice A xs.length c)) 1 (.slice B ys.length c')) 12 (.int .i64 xs.length)) 13 (.int .i64 k)) xs.length ?_ ?_
    · exact ⟨0, by omega, rfl, fun i hi => by omega, Chg.refl _ _, rep4 rfl rfl rfl rfl⟩
    rintro n' e w2 ⟨k, hk, rfl, hsame, g2, e0, rfl⟩ KJ hJ
    repeat (first | refine WL.nil ?_ | refine WL.auto (h := ?_) | refine WL.gskip rfl rfl rfl rfl ?_ | refine WL.gauto (h := ?_) | (refine CW.seq ?_; intro K hK) | refine CW.block ?_ | refine CW.region ?_ | refine CW.skip ?_ | refine CW.exit ?_ | refine CW.ret ?_ | (refine thn_ret (K := K) ?_; clear hK K) | refine thn_ret ?_ | refine blk_ret ?_ | (refine thn_exit (K := K) ?_; clear hK K) | refine thn_exit ?_ | refine blk_here ?_ | refine blk_past rfl ?_ | refine thn_norm ?_ | refine blk_norm ?_ | refine CW.condT rfl ?_ | refine CW.condF rfl ?_ | (refine hK _ _ ?_; clear hK K))
    refine CW.condP rfl (fun h3 => ?_) (fun h3 => ?_)
    · have hkl : k < xs.length := by omega
      have hkl' : k < ys.length := by omega
      obtain ⟨cx, DX, capx, x1, x2, x3, x4, x5, x6⟩ := (hx.grow g2).at_ (List.getElem?_eq_getElem hkl)
      obtain ⟨cy, DY, capy, y1, y2, y3, y4, y5, y6⟩ := (hy.grow g2).at_ (List.getElem?_eq_getElem hkl')
      have hxk : xs[k]? = some xs[k] := List.getElem?_eq_getElem hkl
      have hyk : ys[k]? = some ys[k] := List.getElem?_eq_getElem hkl'
      generalize xs[k] = x at *
      generalize ys[k] = y at *
      obtain ⟨n1, b1⟩ := x
      obtain ⟨n2, b2⟩ := y
      simp only at x4 x5 x6 y4 y5 y6
      have hne : ¬ (n1, b1) = (n2, b2) → xs ≠ ys := fun h e => by
        rw [e] at hxk
        rw [hxk] at hyk
        exact h (Option.some.inj hyk)
      repeat (first | refine WL.nil ?_ | refine WL.auto (h := ?_) | refine WL.gskip rfl rfl rfl rfl ?_ | refine WL.gauto (h := ?_) | (refine CW.seq ?_; intro K hK) | refine CW.block ?_ | refine CW.region ?_ | refine CW.skip ?_ | refine CW.exit ?_ | refine CW.ret ?_ | (refine thn_ret (K := K) ?_; clear hK K) | refine thn_ret ?_ | refine blk_ret ?_ | (refine thn_exit (K := K) ?_; clear hK K) | refine thn_exit ?_ | refine blk_here ?_ | refine blk_past rfl ?_ | refine thn_norm ?_ | refine blk_norm ?_ | refine CW.condT rfl ?_ | refine CW.condF rfl ?_ | (refine hK _ _ ?_; clear hK K))
      by_cases e1 : n1 = n2
      · refine CW.quiet rfl (by kernel_rfl) ?_
        repeat (first | refine QL.nil ?_ | refine QL.auto (hn := ?_) | refine QL.gskip rfl rfl rfl rfl ?_ | refine QL.gauto (hn := ?_))
        refine QL.step rfl rfl (fun w hg => OpW.indexAddr k rfl rfl rfl hkl x2 x3 ⟨rfl, rfl⟩) ?_
        repeat (first | refine QL.nil ?_ | refine QL.auto (hn := ?_) | refine QL.gskip rfl rfl rfl rfl ?_ | refine QL.gauto (hn := ?_))
        refine QL.step rfl rfl (fun w hg => OpW.indexAddr k rfl rfl rfl hkl' y2 y3 ⟨rfl, rfl⟩) ?_
        repeat (first | refine QL.nil ?_ | refine QL.auto (hn := ?_) | refine QL.gskip rfl rfl rfl rfl ?_ | refine QL.gauto (hn := ?_))
        rw [show decide (¬ n1 = n2) = false from decide_eq_false (fun h => h e1)]
        repeat (first | refine QL.nil ?_ | refine QL.auto (hn := ?_) | refine QL.gskip rfl rfl rfl rfl ?_ | refine QL.gauto (hn := ?_))
        refine QL.gstep rfl rfl rfl rfl rfl (fun w hg => OpW.indexAddr k rfl rfl rfl hkl x2 x3 ⟨rfl, rfl⟩) ?_
        repeat (first | refine QL.nil ?_ | refine QL.auto (hn := ?_) | refine QL.gskip rfl rfl rfl rfl ?_ | refine QL.gauto (hn := ?_))
        refine QL.gstep rfl rfl rfl rfl rfl (fun w hg => OpW.toStr rfl (x6.grow hg) rfl ⟨rfl, rfl⟩) ?_
        repeat (first | refine QL.nil ?_ | refine QL.auto (hn := ?_) | refine QL.gskip rfl rfl rfl rfl ?_ | refine QL.gauto (hn := ?_))
        refine QL.gstep rfl rfl rfl rfl rfl (fun w hg => OpW.indexAddr k rfl rfl rfl hkl' y2 y3 ⟨rfl, rfl⟩) ?_
        repeat (first | refine QL.nil ?_ | refine QL.auto (hn := ?_) | refine QL.gskip rfl rfl rfl rfl ?_ | refine QL.gauto (hn := ?_))
        refine QL.gstep rfl rfl rfl rfl rfl (fun w hg => OpW.toStr rfl (y6.grow hg) rfl ⟨rfl, rfl⟩) ?_
        repeat (first | refine QL.nil ?_ | refine QL.auto (hn := ?_) | refine QL.gskip rfl rfl rfl rfl ?_ | refine QL.gauto (hn := ?_))
        intro w3 g3
        repeat (first | refine WL.nil ?_ | refine WL.auto (h := ?_) | refine WL.gskip rfl rfl rfl rfl ?_ | refine WL.gauto (h := ?_) | (refine CW.seq ?_; intro K hK) | refine CW.block ?_ | refine CW.region ?_ | refine CW.skip ?_ | refine CW.exit ?_ | refine CW.ret ?_ | (refine thn_ret (K := K) ?_; clear hK K) | refine thn_ret ?_ | refine blk_ret ?_ | (refine thn_exit (K := K) ?_; clear hK K) | refine thn_exit ?_ | refine blk_here ?_ | refine blk_past rfl ?_ | refine thn_norm ?_ | refine blk_norm ?_ | refine CW.condT rfl ?_ | refine CW.condF rfl ?_ | (refine hK _ _ ?_; clear hK K))
        refine CW.condP rfl (fun h4 => ?_) (fun h4 => ?_)
        · repeat (first | refine WL.nil ?_ | refine WL.auto (h := ?_) | refine WL.gskip rfl rfl rfl rfl ?_ | refine WL.gauto (h := ?_) | (refine CW.seq ?_; intro K hK) | refine CW.block ?_ | refine CW.region ?_ | refine CW.skip ?_ | refine CW.exit ?_ | refine CW.ret ?_ | (refine thn_ret (K := K) ?_; clear hK K) | refine thn_ret ?_ | refine blk_ret ?_ | (refine thn_exit (K := K) ?_; clear hK K) | refine thn_exit ?_ | refine blk_here ?_ | refine blk_past rfl ?_ | refine thn_norm ?_ | refine blk_norm ?_ | refine CW.condT rfl ?_ | refine CW.condF rfl ?_ | (refine hK _ _ ?_; clear hK K))
          refine out1 (v := .bool false) Try.results37 rfl ⟨congrArg Value.bool (decide_eq_false (hne fun e => h4 (congrArg Prod.snd e))).symm, g2.then g3⟩ (Or.inr rfl)
        · have e2 : b1 = b2 := by simpa using h4
          repeat (first | refine WL.nil ?_ | refine WL.auto (h := ?_) | refine WL.gskip rfl rfl rfl rfl ?_ | refine WL.gauto (h := ?_) | (refine CW.seq ?_; intro K hK) | refine CW.block ?_ | refine CW.region ?_ | refine CW.skip ?_ | refine CW.exit ?_ | refine CW.ret ?_ | (refine thn_ret (K := K) ?_; clear hK K) | refine thn_ret ?_ | refine blk_ret ?_ | (refine thn_exit (K := K) ?_; clear hK K) | refine thn_exit ?_ | refine blk_here ?_ | refine blk_past rfl ?_ | refine thn_norm ?_ | refine blk_norm ?_ | refine CW.condT rfl ?_ | refine CW.condF rfl ?_ | (refine hK _ _ ?_; clear hK K))
          refine hJ (xs.length - (k + 1)) _ _ (by omega) ⟨k + 1, by omega, rfl, fun i hi => ?_, g2.then g3, rep4 rfl rfl rfl (congrArg (Value.int .i64) (by omega))⟩
          rcases Nat.lt_or_ge i k with h | h
          · exact hsame i h
          · obtain rfl : i = k := by omega
            rw [hxk, hyk, e1, e2]
      · refine CW.quiet rfl (by kernel_rfl) ?_
        repeat (first | refine QL.nil ?_ | refine QL.auto (hn := ?_) | refine QL.gskip rfl rfl rfl rfl ?_ | refine QL.gauto (hn := ?_))
        refine QL.step rfl rfl (fun w hg => OpW.indexAddr k rfl rfl rfl hkl x2 x3 ⟨rfl, rfl⟩) ?_
        repeat (first | refine QL.nil ?_ | refine QL.auto (hn := ?_) | refine QL.gskip rfl rfl rfl rfl ?_ | refine QL.gauto (hn := ?_))
        refine QL.step rfl rfl (fun w hg => OpW.indexAddr k rfl rfl rfl hkl' y2 y3 ⟨rfl, rfl⟩) ?_
        repeat (first | refine QL.nil ?_ | refine QL.auto (hn := ?_) | refine QL.gskip rfl rfl rfl rfl ?_ | refine QL.gauto (hn := ?_))
        rw [show decide (¬ n1 = n2) = true from decide_eq_true e1]
        repeat (first | refine QL.nil ?_ | refine QL.auto (hn := ?_) | refine QL.gskip rfl rfl rfl rfl ?_ | refine QL.gauto (hn := ?_))
        intro w3 g3
        repeat (first | refine WL.nil ?_ | refine WL.auto (h := ?_) | refine WL.gskip rfl rfl rfl rfl ?_ | refine WL.gauto (h := ?_) | (refine CW.seq ?_; intro K hK) | refine CW.block ?_ | refine CW.region ?_ | refine CW.skip ?_ | refine CW.exit ?_ | refine CW.ret ?_ | (refine thn_ret (K := K) ?_; clear hK K) | refine thn_ret ?_ | refine blk_ret ?_ | (refine thn_exit (K := K) ?_; clear hK K) | refine thn_exit ?_ | refine blk_here ?_ | refine blk_past rfl ?_ | refine thn_norm ?_ | refine blk_norm ?_ | refine CW.condT rfl ?_ | refine CW.condF rfl ?_ | (refine hK _ _ ?_; clear hK K))
        refine out1 (v := .bool false) Try.results37 rfl ⟨congrArg Value.bool (decide_eq_false (hne fun e => e1 (congrArg Prod.fst e))).symm, g2.then g3⟩ (Or.inr rfl)
    · obtain rfl : k = xs.length := by omega
      repeat (first | refine WL.nil ?_ | refine WL.auto (h := ?_) | refine WL.gskip rfl rfl rfl rfl ?_ | refine WL.gauto (h := ?_) | (refine CW.seq ?_; intro K hK) | refine CW.block ?_ | refine CW.region ?_ | refine CW.skip ?_ | refine CW.exit ?_ | refine CW.ret ?_ | (refine thn_ret (K := K) ?_; clear hK K) | refine thn_ret ?_ | refine blk_ret ?_ | (refine thn_exit (K := K) ?_; clear hK K) | refine thn_exit ?_ | refine blk_here ?_ | refine blk_past rfl ?_ | refine thn_norm ?_ | refine blk_norm ?_ | refine CW.condT rfl ?_ | refine CW.condF rfl ?_ | (refine hK _ _ ?_; clear hK K))
      refine out1 (v := .bool true) Try.results37 rfl ⟨congrArg Value.bool (decide_eq_true ?_).symm, g2⟩ (Or.inr rfl)
      apply List.ext_getElem?
      intro i
      rcases Nat.lt_or_ge i xs.length with h | h
      · exact hsame i h
      · rw [List.getElem?_eq_none h, List.getElem?_eq_none (by omega)]
  · rw [show decide (¬ (xs.length : Int) = (ys.length : Int)) = true from decide_eq_true (by omega)]
    repeat (first | refine WL.nil ?_ | refine WL.auto (h := ?_) | refine WL.gskip rfl rfl rfl rfl ?_ | refine WL.gauto (h := ?_) | (refine CW.seq ?_; intro K hK) | refine CW.block ?_ | refine CW.region ?_ | refine CW.skip ?_ | refine CW.exit ?_ | refine CW.ret ?_ | (refine thn_ret (K := K) ?_; clear hK K) | refine thn_ret ?_ | refine blk_ret ?_ | (refine thn_exit (K := K) ?_; clear hK K) | refine thn_exit ?_ | refine blk_here ?_ | refine blk_past rfl ?_ | refine thn_norm ?_ | refine blk_norm ?_ | refine CW.condT rfl ?_ | refine CW.condF rfl ?_ | (refine hK _ _ ?_; clear hK K))
    exact out1 (v := .bool false) Try.results37 rfl ⟨congrArg Value.bool (decide_eq_false fun e => hlen (by rw [e])).symm, Chg.refl _ _⟩ (Or.inr rfl)
end B
end Go.Proofs.Ytlofcomnhecgfaa
/- Crash of the document's disk. Sizes are bounded. -/
namespace Go.Proofs.Ytlofcomnhecgfaa
namespace B
attribute [local irreducible] OpW WL CW Ret Sl Blk thn blk outOf
set_option linter.unusedVariables false
set_option linter.unusedSimpArgs false
set_option maxRecDepth 4000

theorem crashStep_ix (b : List UInt8) (l : Nat) (ks : List Bool) (K : Nat) (c : UInt8) : crashStep (b, l, ks.drop K) c = if ks[K]? = some true then (b ++ [c], b.length + 1, ks.drop (K + 1)) else (b ++ [0], l, ks.drop (K + 1)) := by
  rcases Nat.lt_or_ge K ks.length with h | h
  · rw [List.getElem?_eq_getElem h, List.drop_eq_getElem_cons h]
    unfold crashStep
    cases ks[K] <;> simp
  · rw [List.getElem?_eq_none h, List.drop_of_length_le h, List.drop_of_length_le (by omega)]
    simp [crashStep]
/-- Files that were handed out, with room behind their bytes. -/
def FilesOutR (w : World) (OA : Option Addr) (cap : Nat) (xs : List (List UInt8 × List UInt8)) (ZA ZD : Nat → Prop) : Prop :=
  ∃ cells : List Value, Own w OA 52 2 xs.length cap cells ZA ∧ ∀ i x, xs[i]? = some x → ∃ DA c, (cells.drop (i * 2)).take 2 = [.string (bstr x.1), .slice DA x.2.length c] ∧ Own w DA 5 1 x.2.length c (bvs x.2) ZD
theorem FilesOutR.in_ {w : World} {OA : Option Addr} {cap : Nat} {xs : List (List UInt8 × List UInt8)} {ZA ZD : Nat → Prop} (h : FilesOutR w OA cap xs ZA ZD) : FilesIn w OA xs (fun b => ZA b ∨ ZD b) := by
  obtain ⟨cells, g1, g2⟩ := h
  refine ⟨cells, g1.sl, fun _ a ha => Or.inl (g1.in_ ha).1, g1.1, fun i x hx => ?_⟩
  obtain ⟨DA, c, g3, g4⟩ := g2 i x hx
  exact ⟨DA, c, g3, g4.sl, fun _ a ha => Or.inr (g4.in_ ha).1, g4.le⟩
theorem rcrash39 (tag : Nat → Tag) (mb : Nat) (RA : Option Addr) (rcap : Nat) (rc : List Value) (d : PD) (KA : Option Addr) (kcap : Nat) (ks : List Bool) (w : World) (h : RefAt tag w mb RA rcap rc d) (hn : d.files.length ≤ 16) (hd : ∀ f ∈ d.files, f.data.length ≤ 1099511627776 ∧ f.safe ≤ f.data.length)
    (hk : Sl w KA (ks.map .bool)) (hkl : ks.length ≤ 1099511627776) :
    Ret Try.prog 39 #[.pointer (some ⟨mb, 0, none⟩), .slice KA ks.length kcap] w fun v w' => Grow w w' ∧ ∃ (OA : Option Addr) (cap : Nat), v = .slice OA (crashAll d.files ks).1.length cap ∧ FilesIn w' OA (crashAll d.files ks).1 (fresh w) := by
  have hb := h.blk
  refine Ret.enter (fn := Try.f39) (N := 75) Try.func39 rfl Try.ntmps39 rfl ?_
  repeat (first | refine WL.nil ?_ | refine WL.auto (h := ?_) | refine WL.gskip rfl rfl rfl rfl ?_ | refine WL.gauto (h := ?_) | (refine CW.seq ?_; intro K hK) | refine CW.block ?_ | refine CW.region ?_ | refine CW.skip ?_ | refine CW.exit ?_ | refine CW.ret ?_ | (refine thn_ret (K := K) ?_; clear hK K) | refine thn_ret ?_ | refine blk_ret ?_ | (refine thn_exit (K := K) ?_; clear hK K) | refine thn_exit ?_ | refine blk_here ?_ | refine blk_past rfl ?_ | refine thn_norm ?_ | refine blk_norm ?_ | refine CW.condT rfl ?_ | refine CW.condF rfl ?_ | (refine hK _ _ ?_; clear hK K))
  refine CW.loop (fun n' e w3 => ∃ (k : Nat) (OA : Option Addr) (ocap : Nat) (kn : Nat) (col : Nat → Bool), k ≤ d.files.length ∧ n' = d.files.length - k ∧ Grow w w3 ∧ FilesOutR w3 OA ocap (crashAll (d.files.take k) ks).1 (fun b => w.heap.size ≤ b ∧ col b = true) (fun b => w.heap.size ≤ b ∧ col b = false) ∧
    (crashAll (d.files.take k) ks).2 = ks.drop kn ∧ kn ≤ k * 1099511627776 ∧
    ∃ e0, e = upd (upd (upd (upd (upd (upd e0 1 (.slice KA ks.length kcap)) 5 (.slice OA (crashAll (d.files.take k) ks).1.length ocap)) 6 (.int .i64 kn)) 15 (.slice RA d.files.length rcap)) 16 (.int .i64 d.files.length)) 17 (.int .i64 k)) d.files.length ?_ ?_
  · exact ⟨0, none, 0, 0, fun _ => true, by omega, rfl, Chg.refl _ _, ⟨[], Own.nil _ _ _ _, fun i x hx => by simp [crashAll] at hx⟩, rfl, by omega, rep6 rfl rfl rfl rfl rfl rfl⟩
  rintro n' e w2 ⟨k, OA, ocap, kn, col, hkn, rfl, g2, ho, hkn0, hkb, e0, rfl⟩ KJ hJ
  have hsn : ∀ hkl : k < d.files.length, crashAll (d.files.take (k + 1)) ks = ((crashAll (d.files.take k) ks).1 ++ [((d.files[k]).name, (crashFile (d.files[k]) (crashAll (d.files.take k) ks).2).1)], (crashFile (d.files[k]) (crashAll (d.files.take k) ks).2).2) := fun hkl => by rw [List.take_succ_eq_append_getElem hkl, crashAll_snoc]
  have hol : (crashAll (d.files.take k) ks).1.length = k := by rw [crashAll_length]; simp; omega
  generalize hr : crashAll (d.files.take k) ks = r at *
  obtain ⟨xs, rs⟩ := r
  simp only at ho hkn0 hsn hol
  subst hkn0
  repeat (first | refine WL.nil ?_ | refine WL.auto (h := ?_) | refine WL.gskip rfl rfl rfl rfl ?_ | refine WL.gauto (h := ?_) | (refine CW.seq ?_; intro K hK) | refine CW.block ?_ | refine CW.region ?_ | refine CW.skip ?_ | refine CW.exit ?_ | refine CW.ret ?_ | (refine thn_ret (K := K) ?_; clear hK K) | refine thn_ret ?_ | refine blk_ret ?_ | (refine thn_exit (K := K) ?_; clear hK K) | refine thn_exit ?_ | refine blk_here ?_ | refine blk_past rfl ?_ | refine thn_norm ?_ | refine blk_norm ?_ | refine CW.condT rfl ?_ | refine CW.condF rfl ?_ | (refine hK _ _ ?_; clear hK K))
  refine CW.condP rfl (fun h2 => ?_) (fun h2 => ?_)
  · have hkf : k < d.files.length := by omega
    have h3 := h.grow g2
    obtain ⟨DA, dcap, q0, q1, q2, q3, q4, q5, q6⟩ := h3.at_ (List.getElem?_eq_getElem hkf)
    have hsl := h3.own.sl
    have hf := hd d.files[k] (List.getElem_mem hkf)
    have hsn1 := hsn hkf
    clear hsn
    generalize d.files[k] = f at *
    obtain ⟨hfl, hfs⟩ := hf
    repeat (first | refine WL.nil ?_ | refine WL.auto (h := ?_) | refine WL.gskip rfl rfl rfl rfl ?_ | refine WL.gauto (h := ?_) | (refine CW.seq ?_; intro K hK) | refine CW.block ?_ | refine CW.region ?_ | refine CW.skip ?_ | refine CW.exit ?_ | refine CW.ret ?_ | (refine thn_ret (K := K) ?_; clear hK K) | refine thn_ret ?_ | refine blk_ret ?_ | (refine thn_exit (K := K) ?_; clear hK K) | refine thn_exit ?_ | refine blk_here ?_ | refine blk_past rfl ?_ | refine thn_norm ?_ | refine blk_norm ?_ | refine CW.condT rfl ?_ | refine CW.condF rfl ?_ | (refine hK _ _ ?_; clear hK K))
    first | refine WL.step rfl ?_ | refine WL.gstep rfl rfl rfl rfl ?_
    refine OpW.indexAddr k rfl rfl rfl hkf q4 q5 ?_
    repeat (first | refine WL.nil ?_ | refine WL.auto (h := ?_) | refine WL.gskip rfl rfl rfl rfl ?_ | refine WL.gauto (h := ?_) | (refine CW.seq ?_; intro K hK) | refine CW.block ?_ | refine CW.region ?_ | refine CW.skip ?_ | refine CW.exit ?_ | refine CW.ret ?_ | (refine thn_ret (K := K) ?_; clear hK K) | refine thn_ret ?_ | refine blk_ret ?_ | (refine thn_exit (K := K) ?_; clear hK K) | refine thn_exit ?_ | refine blk_here ?_ | refine blk_past rfl ?_ | refine thn_norm ?_ | refine blk_norm ?_ | refine CW.condT rfl ?_ | refine CW.condF rfl ?_ | (refine hK _ _ ?_; clear hK K))
    first | refine WL.step rfl ?_ | refine WL.gstep rfl rfl rfl rfl ?_
    refine OpW.loadAggS _ rfl hsl q6 rfl (by decide) ?_
    repeat (first | refine WL.nil ?_ | refine WL.auto (h := ?_) | refine WL.gskip rfl rfl rfl rfl ?_ | refine WL.gauto (h := ?_) | (refine CW.seq ?_; intro K hK) | refine CW.block ?_ | refine CW.region ?_ | refine CW.skip ?_ | refine CW.exit ?_ | refine CW.ret ?_ | (refine thn_ret (K := K) ?_; clear hK K) | refine thn_ret ?_ | refine blk_ret ?_ | (refine thn_exit (K := K) ?_; clear hK K) | refine thn_exit ?_ | refine blk_here ?_ | refine blk_past rfl ?_ | refine thn_norm ?_ | refine blk_norm ?_ | refine CW.condT rfl ?_ | refine CW.condF rfl ?_ | (refine hK _ _ ?_; clear hK K))
    first | refine WL.step rfl ?_ | refine WL.gstep rfl rfl rfl rfl ?_
    refine OpW.alloc (fun b3 w3 n3 => ?_)
    repeat (first | refine WL.nil ?_ | refine WL.auto (h := ?_) | refine WL.gskip rfl rfl rfl rfl ?_ | refine WL.gauto (h := ?_) | (refine CW.seq ?_; intro K hK) | refine CW.block ?_ | refine CW.region ?_ | refine CW.skip ?_ | refine CW.exit ?_ | refine CW.ret ?_ | (refine thn_ret (K := K) ?_; clear hK K) | refine thn_ret ?_ | refine blk_ret ?_ | (refine thn_exit (K := K) ?_; clear hK K) | refine thn_exit ?_ | refine blk_here ?_ | refine blk_past rfl ?_ | refine thn_norm ?_ | refine blk_norm ?_ | refine CW.condT rfl ?_ | refine CW.condF rfl ?_ | (refine hK _ _ ?_; clear hK K))
    refine WL.step0 ?_
    refine OpW.storeAll rfl rfl rfl n3.blk rfl rfl (fun w4 p4 hb4 => ?_)
    have g4 : Grow w2 w4 := n3.grow.chgNew p4.chg (fun i hi h => by subst h; have := n3.fresh; omega)
    have q34 := q3.grow g4
    repeat (first | refine WL.nil ?_ | refine WL.auto (h := ?_) | refine WL.gskip rfl rfl rfl rfl ?_ | refine WL.gauto (h := ?_) | (refine CW.seq ?_; intro K hK) | refine CW.block ?_ | refine CW.region ?_ | refine CW.skip ?_ | refine CW.exit ?_ | refine CW.ret ?_ | (refine thn_ret (K := K) ?_; clear hK K) | refine thn_ret ?_ | refine blk_ret ?_ | (refine thn_exit (K := K) ?_; clear hK K) | refine thn_exit ?_ | refine blk_here ?_ | refine blk_past rfl ?_ | refine thn_norm ?_ | refine blk_norm ?_ | refine CW.condT rfl ?_ | refine CW.condF rfl ?_ | (refine hK _ _ ?_; clear hK K))
    first | refine WL.step rfl ?_ | refine WL.gstep rfl rfl rfl rfl ?_
    refine OpW.buildNone (fun b5 w5 n5 => ?_)
    have hb5 := hb4.grow n5.grow
    have q35 := q34.grow n5.grow
    repeat (first | refine WL.nil ?_ | refine WL.auto (h := ?_) | refine WL.gskip rfl rfl rfl rfl ?_ | refine WL.gauto (h := ?_) | (refine CW.seq ?_; intro K hK) | refine CW.block ?_ | refine CW.region ?_ | refine CW.skip ?_ | refine CW.exit ?_ | refine CW.ret ?_ | (refine thn_ret (K := K) ?_; clear hK K) | refine thn_ret ?_ | refine blk_ret ?_ | (refine thn_exit (K := K) ?_; clear hK K) | refine thn_exit ?_ | refine blk_here ?_ | refine blk_past rfl ?_ | refine thn_norm ?_ | refine blk_norm ?_ | refine CW.condT rfl ?_ | refine CW.condF rfl ?_ | (refine hK _ _ ?_; clear hK K))
    first | refine WL.step rfl ?_ | refine WL.gstep rfl rfl rfl rfl ?_
    refine OpW.sliceHi f.safe rfl rfl rfl (by have := q3.le; omega) ?_
    have hsafe : Sl w5 DA (bvs (f.data.take f.safe)) := by
      have := q35.sl.take f.safe
      rwa [bvs_take] at this
    have hsl1 : (f.data.take f.safe).length = f.safe := by simp; omega
    repeat (first | refine WL.nil ?_ | refine WL.auto (h := ?_) | refine WL.gskip rfl rfl rfl rfl ?_ | refine WL.gauto (h := ?_) | (refine CW.seq ?_; intro K hK) | refine CW.block ?_ | refine CW.region ?_ | refine CW.skip ?_ | refine CW.exit ?_ | refine CW.ret ?_ | (refine thn_ret (K := K) ?_; clear hK K) | refine thn_ret ?_ | refine blk_ret ?_ | (refine thn_exit (K := K) ?_; clear hK K) | refine thn_exit ?_ | refine blk_here ?_ | refine blk_past rfl ?_ | refine thn_norm ?_ | refine blk_norm ?_ | refine CW.condT rfl ?_ | refine CW.condF rfl ?_ | (refine hK _ _ ?_; clear hK K))
    first | refine WL.step rfl ?_ | refine WL.gstep rfl rfl rfl rfl ?_
    refine OpW.appB (w0 := w4) (l := []) (m := f.data.take f.safe) rfl rfl rfl rfl hsl1.symm rfl (Own.empty n5) hsafe n5.grow (by simp; omega) (fun A6 c6 w6 o6 g6 _ => ?_)
    rw [List.nil_append] at o6 ⊢
    rw [hsl1] at o6 ⊢
    have hb6 := hb4.grow g6
    repeat (first | refine WL.nil ?_ | refine WL.auto (h := ?_) | refine WL.gskip rfl rfl rfl rfl ?_ | refine WL.gauto (h := ?_) | (refine CW.seq ?_; intro K hK) | refine CW.block ?_ | refine CW.region ?_ | refine CW.skip ?_ | refine CW.exit ?_ | refine CW.ret ?_ | (refine thn_ret (K := K) ?_; clear hK K) | refine thn_ret ?_ | refine blk_ret ?_ | (refine thn_exit (K := K) ?_; clear hK K) | refine thn_exit ?_ | refine blk_here ?_ | refine blk_past rfl ?_ | refine thn_norm ?_ | refine blk_norm ?_ | refine CW.condT rfl ?_ | refine CW.condF rfl ?_ | (refine hK _ _ ?_; clear hK K))
    refine CW.loop (fun n' e w7 => ∃ (m : Nat) (A7 : Option Addr) (c7 : Nat), f.safe + m ≤ f.data.length ∧ n' = f.data.length - f.safe - m ∧ Own w7 A7 5 1 (f.safe + m) c7 (bvs (crashRun f (ks.drop kn) m).1) (fresh w4) ∧ Grow w4 w7 ∧
      (crashRun f (ks.drop kn) m).2.2 = ks.drop (kn + m) ∧
      ∃ e0, e = upd (upd (upd (upd (upd (upd (upd (upd (upd (upd e0 1 (.slice KA ks.length kcap)) 5 (.slice OA xs.length ocap)) 6 (.int .i64 ((kn + m : Nat) : Int))) 8 (.pointer (some ⟨b3, 0, none⟩))) 9 (.slice A7 (f.safe + m) c7)) 10 (.int .i64 ((crashRun f (ks.drop kn) m).2.1 : Nat))) 11 (.int .i64 ((f.safe + m : Nat) : Int))) 15 (.slice RA d.files.length rcap)) 16 (.int .i64 d.files.length)) 17 (.int .i64 k)) (f.data.length - f.safe) ?_ ?_
    · refine ⟨0, A6, c6, by omega, rfl, ?_, g6, rfl, rep10 rfl rfl rfl rfl rfl rfl rfl rfl rfl rfl⟩
      simpa [crashRun] using o6
    rintro n' e w7 ⟨m, A7, c7, hm, rfl, o7, g7, hdr, e0, rfl⟩ KJ2 hJ2
    have hb7 := hb4.grow g7
    have hk7 : Sl w7 KA (ks.map .bool) := hk.grow (g2.then (g4.then g7))
    repeat (first | refine WL.nil ?_ | refine WL.auto (h := ?_) | refine WL.gskip rfl rfl rfl rfl ?_ | refine WL.gauto (h := ?_) | (refine CW.seq ?_; intro K hK) | refine CW.block ?_ | refine CW.region ?_ | refine CW.skip ?_ | refine CW.exit ?_ | refine CW.ret ?_ | (refine thn_ret (K := K) ?_; clear hK K) | refine thn_ret ?_ | refine blk_ret ?_ | (refine thn_exit (K := K) ?_; clear hK K) | refine thn_exit ?_ | refine blk_here ?_ | refine blk_past rfl ?_ | refine thn_norm ?_ | refine blk_norm ?_ | refine CW.condT rfl ?_ | refine CW.condF rfl ?_ | (refine hK _ _ ?_; clear hK K))
    refine CW.condP rfl (fun h6 => ?_) (fun h6 => ?_)
    · have hmc : f.safe + m < f.data.length := by omega
      have hst := crashRun_step (ks := ks.drop kn) hmc
      have hln := (crashRun_len (ks := ks.drop kn) hm).1
      obtain ⟨c0, hc0⟩ : ∃ c0, f.data[f.safe + m] = c0 := ⟨_, rfl⟩
      have hcell : (bvs f.data)[f.safe + m]? = some (bv c0) := by rw [bvs_get, List.getElem?_eq_getElem hmc, hc0]; rfl
      rw [hc0] at hst
      generalize hs0 : crashRun f (ks.drop kn) m = st at *
      obtain ⟨sb, sl, sk⟩ := st
      simp only at o7 hdr hln
      subst hdr
      rw [crashStep_ix] at hst
      have o7' : Own w7 A7 5 1 sb.length c7 (bvs sb) (fresh w4) := by rw [hln]; exact o7
      have next : ∀ (A9 : Option Addr) (c9 : Nat) (w9 : World) (bb : List UInt8) (ll : Nat) (E : Env), crashRun f (ks.drop kn) (m + 1) = (bb, ll, ks.drop (kn + m + 1)) → Own w9 A9 5 1 bb.length c9 (bvs bb) (fresh w4) → Grow w4 w9 → bb.length = f.safe + (m + 1) →
          (∃ e0, E = upd (upd (upd (upd (upd (upd (upd (upd (upd (upd e0 1 (.slice KA ks.length kcap)) 5 (.slice OA xs.length ocap)) 6 (.int .i64 ((kn + (m + 1) : Nat) : Int))) 8 (.pointer (some ⟨b3, 0, none⟩))) 9 (.slice A9 bb.length c9)) 10 (.int .i64 (ll : Nat))) 11 (.int .i64 ((f.safe + (m + 1) : Nat) : Int))) 15 (.slice RA d.files.length rcap)) 16 (.int .i64 d.files.length)) 17 (.int .i64 k)) → KJ2 E w9 := by
        intro A9 c9 w9 bb ll E h1 h2 h3 h4 he
        rw [h4] at h2 he
        refine hJ2 (f.data.length - f.safe - (m + 1)) E w9 (by omega) ⟨m + 1, A9, c9, by omega, rfl, by rw [h1]; exact h2, h3, by rw [h1]; rfl, by rw [h1]; exact he⟩
      by_cases c1 : kn + m < ks.length
      · have hkk : (ks.map Value.bool)[kn + m]? = some (.bool ks[kn + m]) := by simp [c1]
        have hkl2 : kn + m < (ks.map Value.bool).length := by simpa using c1
        rw [List.getElem?_eq_getElem c1] at hst
        generalize ks[kn + m] = y at *
        repeat (first | refine WL.nil ?_ | refine WL.auto (h := ?_) | refine WL.gskip rfl rfl rfl rfl ?_ | refine WL.gauto (h := ?_) | (refine CW.seq ?_; intro K hK) | refine CW.block ?_ | refine CW.region ?_ | refine CW.skip ?_ | refine CW.exit ?_ | refine CW.ret ?_ | (refine thn_ret (K := K) ?_; clear hK K) | refine thn_ret ?_ | refine blk_ret ?_ | (refine thn_exit (K := K) ?_; clear hK K) | refine thn_exit ?_ | refine blk_here ?_ | refine blk_past rfl ?_ | refine thn_norm ?_ | refine blk_norm ?_ | refine CW.condT rfl ?_ | refine CW.condF rfl ?_ | (refine hK _ _ ?_; clear hK K))
        rw [decide_eq_true (p := ((kn + m : Nat) : Int) < (ks.length : Int)) (by omega)]
        repeat (first | refine WL.nil ?_ | refine WL.auto (h := ?_) | refine WL.gskip rfl rfl rfl rfl ?_ | refine WL.gauto (h := ?_) | (refine CW.seq ?_; intro K hK) | refine CW.block ?_ | refine CW.region ?_ | refine CW.skip ?_ | refine CW.exit ?_ | refine CW.ret ?_ | (refine thn_ret (K := K) ?_; clear hK K) | refine thn_ret ?_ | refine blk_ret ?_ | (refine thn_exit (K := K) ?_; clear hK K) | refine thn_exit ?_ | refine blk_here ?_ | refine blk_past rfl ?_ | refine thn_norm ?_ | refine blk_norm ?_ | refine CW.condT rfl ?_ | refine CW.condF rfl ?_ | (refine hK _ _ ?_; clear hK K))
        first | refine WL.step rfl ?_ | refine WL.gstep rfl rfl rfl rfl ?_
        refine OpW.indexAddr (kn + m) rfl rfl rfl c1 (sl_ne hk7 hkl2) (sl_sp hk7 hkl2) ?_
        repeat (first | refine WL.nil ?_ | refine WL.auto (h := ?_) | refine WL.gskip rfl rfl rfl rfl ?_ | refine WL.gauto (h := ?_) | (refine CW.seq ?_; intro K hK) | refine CW.block ?_ | refine CW.region ?_ | refine CW.skip ?_ | refine CW.exit ?_ | refine CW.ret ?_ | (refine thn_ret (K := K) ?_; clear hK K) | refine thn_ret ?_ | refine blk_ret ?_ | (refine thn_exit (K := K) ?_; clear hK K) | refine thn_exit ?_ | refine blk_here ?_ | refine blk_past rfl ?_ | refine thn_norm ?_ | refine blk_norm ?_ | refine CW.condT rfl ?_ | refine CW.condF rfl ?_ | (refine hK _ _ ?_; clear hK K))
        first | refine WL.step rfl ?_ | refine WL.gstep rfl rfl rfl rfl ?_
        refine OpW.loadS (v := .bool y) rfl hk7 (by simpa using hkk) ?_
        cases y with
        | true =>
          rw [if_pos rfl] at hst
          have q37 := (q34.grow g7).sl
          repeat (first | refine WL.nil ?_ | refine WL.auto (h := ?_) | refine WL.gskip rfl rfl rfl rfl ?_ | refine WL.gauto (h := ?_) | (refine CW.seq ?_; intro K hK) | refine CW.block ?_ | refine CW.region ?_ | refine CW.skip ?_ | refine CW.exit ?_ | refine CW.ret ?_ | (refine thn_ret (K := K) ?_; clear hK K) | refine thn_ret ?_ | refine blk_ret ?_ | (refine thn_exit (K := K) ?_; clear hK K) | refine thn_exit ?_ | refine blk_here ?_ | refine blk_past rfl ?_ | refine thn_norm ?_ | refine blk_norm ?_ | refine CW.condT rfl ?_ | refine CW.condF rfl ?_ | (refine hK _ _ ?_; clear hK K))
          first | refine WL.step rfl ?_ | refine WL.gstep rfl rfl rfl rfl ?_
          refine OpW.indexAddr (f.safe + m) rfl rfl rfl hmc (sl_ne q37 (List.getElem?_eq_some_iff.1 hcell).1) (sl_sp q37 (List.getElem?_eq_some_iff.1 hcell).1) ?_
          repeat (first | refine WL.nil ?_ | refine WL.auto (h := ?_) | refine WL.gskip rfl rfl rfl rfl ?_ | refine WL.gauto (h := ?_) | (refine CW.seq ?_; intro K hK) | refine CW.block ?_ | refine CW.region ?_ | refine CW.skip ?_ | refine CW.exit ?_ | refine CW.ret ?_ | (refine thn_ret (K := K) ?_; clear hK K) | refine thn_ret ?_ | refine blk_ret ?_ | (refine thn_exit (K := K) ?_; clear hK K) | refine thn_exit ?_ | refine blk_here ?_ | refine blk_past rfl ?_ | refine thn_norm ?_ | refine blk_norm ?_ | refine CW.condT rfl ?_ | refine CW.condF rfl ?_ | (refine hK _ _ ?_; clear hK K))
          first | refine WL.step rfl ?_ | refine WL.gstep rfl rfl rfl rfl ?_
          refine OpW.loadS (v := bv c0) rfl q37 (by simpa using hcell) ?_
          repeat (first | refine WL.nil ?_ | refine WL.auto (h := ?_) | refine WL.gskip rfl rfl rfl rfl ?_ | refine WL.gauto (h := ?_) | (refine CW.seq ?_; intro K hK) | refine CW.block ?_ | refine CW.region ?_ | refine CW.skip ?_ | refine CW.exit ?_ | refine CW.ret ?_ | (refine thn_ret (K := K) ?_; clear hK K) | refine thn_ret ?_ | refine blk_ret ?_ | (refine thn_exit (K := K) ?_; clear hK K) | refine thn_exit ?_ | refine blk_here ?_ | refine blk_past rfl ?_ | refine thn_norm ?_ | refine blk_norm ?_ | refine CW.condT rfl ?_ | refine CW.condF rfl ?_ | (refine hK _ _ ?_; clear hK K))
          first | refine WL.step rfl ?_ | refine WL.gstep rfl rfl rfl rfl ?_
          refine OpW.buildLit [bv c0] rfl rfl rfl (lit1 _ rfl) ?_
          intro b8 w8 n8
          repeat (first | refine WL.nil ?_ | refine WL.auto (h := ?_) | refine WL.gskip rfl rfl rfl rfl ?_ | refine WL.gauto (h := ?_) | (refine CW.seq ?_; intro K hK) | refine CW.block ?_ | refine CW.region ?_ | refine CW.skip ?_ | refine CW.exit ?_ | refine CW.ret ?_ | (refine thn_ret (K := K) ?_; clear hK K) | refine thn_ret ?_ | refine blk_ret ?_ | (refine thn_exit (K := K) ?_; clear hK K) | refine thn_exit ?_ | refine blk_here ?_ | refine blk_past rfl ?_ | refine thn_norm ?_ | refine blk_norm ?_ | refine CW.condT rfl ?_ | refine CW.condF rfl ?_ | (refine hK _ _ ?_; clear hK K))
          first | refine WL.step rfl ?_ | refine WL.gstep rfl rfl rfl rfl ?_
          refine OpW.appB (w0 := w4) (l := sb) (m := [c0]) rfl rfl rfl hln.symm rfl rfl (o7'.grow n8.grow) (blk_sl_lit (vs := [bv c0]) n8) (g7.then n8.grow) (by simp; omega) (fun A9 c9 w9 o9 g9 _ => ?_)
          repeat (first | refine WL.nil ?_ | refine WL.auto (h := ?_) | refine WL.gskip rfl rfl rfl rfl ?_ | refine WL.gauto (h := ?_) | (refine CW.seq ?_; intro K hK) | refine CW.block ?_ | refine CW.region ?_ | refine CW.skip ?_ | refine CW.exit ?_ | refine CW.ret ?_ | (refine thn_ret (K := K) ?_; clear hK K) | refine thn_ret ?_ | refine blk_ret ?_ | (refine thn_exit (K := K) ?_; clear hK K) | refine thn_exit ?_ | refine blk_here ?_ | refine blk_past rfl ?_ | refine thn_norm ?_ | refine blk_norm ?_ | refine CW.condT rfl ?_ | refine CW.condF rfl ?_ | (refine hK _ _ ?_; clear hK K))
          exact next A9 c9 w9 (sb ++ [c0]) (sb.length + 1) _ hst o9 g9 (by simp; omega) (rep10 rfl rfl (congrArg (Value.int .i64) (by omega)) rfl rfl (congrArg (Value.int .i64) (by simp)) (congrArg (Value.int .i64) (by omega)) rfl rfl rfl)
        | false =>
          rw [if_neg (by simp)] at hst
          repeat (first | refine WL.nil ?_ | refine WL.auto (h := ?_) | refine WL.gskip rfl rfl rfl rfl ?_ | refine WL.gauto (h := ?_) | (refine CW.seq ?_; intro K hK) | refine CW.block ?_ | refine CW.region ?_ | refine CW.skip ?_ | refine CW.exit ?_ | refine CW.ret ?_ | (refine thn_ret (K := K) ?_; clear hK K) | refine thn_ret ?_ | refine blk_ret ?_ | (refine thn_exit (K := K) ?_; clear hK K) | refine thn_exit ?_ | refine blk_here ?_ | refine blk_past rfl ?_ | refine thn_norm ?_ | refine blk_norm ?_ | refine CW.condT rfl ?_ | refine CW.condF rfl ?_ | (refine hK _ _ ?_; clear hK K))
          first | refine WL.step rfl ?_ | refine WL.gstep rfl rfl rfl rfl ?_
          refine OpW.buildLit [bv 0] rfl rfl rfl (lit1 _ rfl) ?_
          intro b8 w8 n8
          repeat (first | refine WL.nil ?_ | refine WL.auto (h := ?_) | refine WL.gskip rfl rfl rfl rfl ?_ | refine WL.gauto (h := ?_) | (refine CW.seq ?_; intro K hK) | refine CW.block ?_ | refine CW.region ?_ | refine CW.skip ?_ | refine CW.exit ?_ | refine CW.ret ?_ | (refine thn_ret (K := K) ?_; clear hK K) | refine thn_ret ?_ | refine blk_ret ?_ | (refine thn_exit (K := K) ?_; clear hK K) | refine thn_exit ?_ | refine blk_here ?_ | refine blk_past rfl ?_ | refine thn_norm ?_ | refine blk_norm ?_ | refine CW.condT rfl ?_ | refine CW.condF rfl ?_ | (refine hK _ _ ?_; clear hK K))
          first | refine WL.step rfl ?_ | refine WL.gstep rfl rfl rfl rfl ?_
          refine OpW.appB (w0 := w4) (l := sb) (m := [0]) rfl rfl rfl hln.symm rfl rfl (o7'.grow n8.grow) (blk_sl_lit (vs := [bv 0]) n8) (g7.then n8.grow) (by simp; omega) (fun A9 c9 w9 o9 g9 _ => ?_)
          repeat (first | refine WL.nil ?_ | refine WL.auto (h := ?_) | refine WL.gskip rfl rfl rfl rfl ?_ | refine WL.gauto (h := ?_) | (refine CW.seq ?_; intro K hK) | refine CW.block ?_ | refine CW.region ?_ | refine CW.skip ?_ | refine CW.exit ?_ | refine CW.ret ?_ | (refine thn_ret (K := K) ?_; clear hK K) | refine thn_ret ?_ | refine blk_ret ?_ | (refine thn_exit (K := K) ?_; clear hK K) | refine thn_exit ?_ | refine blk_here ?_ | refine blk_past rfl ?_ | refine thn_norm ?_ | refine blk_norm ?_ | refine CW.condT rfl ?_ | refine CW.condF rfl ?_ | (refine hK _ _ ?_; clear hK K))
          exact next A9 c9 w9 (sb ++ [0]) sl _ hst o9 g9 (by simp; omega) (rep10 rfl rfl (congrArg (Value.int .i64) (by omega)) rfl rfl rfl (congrArg (Value.int .i64) (by omega)) rfl rfl rfl)
      · rw [List.getElem?_eq_none (by omega), if_neg (by simp)] at hst
        repeat (first | refine WL.nil ?_ | refine WL.auto (h := ?_) | refine WL.gskip rfl rfl rfl rfl ?_ | refine WL.gauto (h := ?_) | (refine CW.seq ?_; intro K hK) | refine CW.block ?_ | refine CW.region ?_ | refine CW.skip ?_ | refine CW.exit ?_ | refine CW.ret ?_ | (refine thn_ret (K := K) ?_; clear hK K) | refine thn_ret ?_ | refine blk_ret ?_ | (refine thn_exit (K := K) ?_; clear hK K) | refine thn_exit ?_ | refine blk_here ?_ | refine blk_past rfl ?_ | refine thn_norm ?_ | refine blk_norm ?_ | refine CW.condT rfl ?_ | refine CW.condF rfl ?_ | (refine hK _ _ ?_; clear hK K))
        rw [decide_eq_false (p := ((kn + m : Nat) : Int) < (ks.length : Int)) (by omega)]
        repeat (first | refine WL.nil ?_ | refine WL.auto (h := ?_) | refine WL.gskip rfl rfl rfl rfl ?_ | refine WL.gskipU rfl rfl rfl rfl ?_ | refine WL.gauto (h := ?_) | (refine CW.seq ?_; intro K hK) | refine CW.block ?_ | refine CW.region ?_ | refine CW.skip ?_ | refine CW.exit ?_ | refine CW.ret ?_ | (refine thn_ret (K := K) ?_; clear hK K) | refine thn_ret ?_ | refine blk_ret ?_ | (refine thn_exit (K := K) ?_; clear hK K) | refine thn_exit ?_ | refine blk_here ?_ | refine blk_past rfl ?_ | refine thn_norm ?_ | refine blk_norm ?_ | refine CW.condT rfl ?_ | refine CW.condF rfl ?_ | (refine hK _ _ ?_; clear hK K))
        first | refine WL.step rfl ?_ | refine WL.gstep rfl rfl rfl rfl ?_
        refine OpW.buildLit [bv 0] rfl rfl rfl (lit1 _ rfl) ?_
        intro b8 w8 n8
        repeat (first | refine WL.nil ?_ | refine WL.auto (h := ?_) | refine WL.gskip rfl rfl rfl rfl ?_ | refine WL.gauto (h := ?_) | (refine CW.seq ?_; intro K hK) | refine CW.block ?_ | refine CW.region ?_ | refine CW.skip ?_ | refine CW.exit ?_ | refine CW.ret ?_ | (refine thn_ret (K := K) ?_; clear hK K) | refine thn_ret ?_ | refine blk_ret ?_ | (refine thn_exit (K := K) ?_; clear hK K) | refine thn_exit ?_ | refine blk_here ?_ | refine blk_past rfl ?_ | refine thn_norm ?_ | refine blk_norm ?_ | refine CW.condT rfl ?_ | refine CW.condF rfl ?_ | (refine hK _ _ ?_; clear hK K))
        first | refine WL.step rfl ?_ | refine WL.gstep rfl rfl rfl rfl ?_
        refine OpW.appB (w0 := w4) (l := sb) (m := [0]) rfl rfl rfl hln.symm rfl rfl (o7'.grow n8.grow) (blk_sl_lit (vs := [bv 0]) n8) (g7.then n8.grow) (by simp; omega) (fun A9 c9 w9 o9 g9 _ => ?_)
        repeat (first | refine WL.nil ?_ | refine WL.auto (h := ?_) | refine WL.gskip rfl rfl rfl rfl ?_ | refine WL.gauto (h := ?_) | (refine CW.seq ?_; intro K hK) | refine CW.block ?_ | refine CW.region ?_ | refine CW.skip ?_ | refine CW.exit ?_ | refine CW.ret ?_ | (refine thn_ret (K := K) ?_; clear hK K) | refine thn_ret ?_ | refine blk_ret ?_ | (refine thn_exit (K := K) ?_; clear hK K) | refine thn_exit ?_ | refine blk_here ?_ | refine blk_past rfl ?_ | refine thn_norm ?_ | refine blk_norm ?_ | refine CW.condT rfl ?_ | refine CW.condF rfl ?_ | (refine hK _ _ ?_; clear hK K))
        exact next A9 c9 w9 (sb ++ [0]) sl _ hst o9 g9 (by simp; omega) (rep10 rfl rfl (congrArg (Value.int .i64) (by omega)) rfl rfl rfl (congrArg (Value.int .i64) (by omega)) rfl rfl rfl)
    · obtain rfl : m = f.data.length - f.safe := by omega
      have hcf : crashFile f (ks.drop kn) = ((crashRun f (ks.drop kn) (f.data.length - f.safe)).1.take (crashRun f (ks.drop kn) (f.data.length - f.safe)).2.1, (crashRun f (ks.drop kn) (f.data.length - f.safe)).2.2) := rfl
      have hln := crashRun_len (ks := ks.drop kn) hm
      generalize hs0 : crashRun f (ks.drop kn) (f.data.length - f.safe) = st at *
      obtain ⟨sb, sl, sk⟩ := st
      simp only at o7 hdr hln hcf
      subst hdr
      have gw24 : Grow w2 w7 := g4.then g7
      obtain ⟨cells, ho1, ho2⟩ := ho
      have oa2 : ∀ a, OA = some a → a.block < w2.heap.size := fun a ha => (ho1.in_ ha).2
      have hf3 := n3.fresh
      have hnS : ¬ (∃ a, OA = some a ∧ a.block = b3) := by
        rintro ⟨a, ha, e⟩
        have h7 := oa2 a ha
        omega
      replace ho1 := ho1.grow gw24
      repeat (first | refine WL.nil ?_ | refine WL.auto (h := ?_) | refine WL.gskip rfl rfl rfl rfl ?_ | refine WL.gauto (h := ?_) | (refine CW.seq ?_; intro K hK) | refine CW.block ?_ | refine CW.region ?_ | refine CW.skip ?_ | refine CW.exit ?_ | refine CW.ret ?_ | (refine thn_ret (K := K) ?_; clear hK K) | refine thn_ret ?_ | refine blk_ret ?_ | (refine thn_exit (K := K) ?_; clear hK K) | refine thn_exit ?_ | refine blk_here ?_ | refine blk_past rfl ?_ | refine thn_norm ?_ | refine blk_norm ?_ | refine CW.condT rfl ?_ | refine CW.condF rfl ?_ | (refine hK _ _ ?_; clear hK K))
      refine CW.held (fun b => ∃ a, OA = some a ∧ a.block = b) (.take 0 (.take 1 (.take 2 (.take 3 (.take 4 (.take 5 (.one 6 (.one 7 (.one 8 (.one 9 .nil)))))))))) rfl (by kernel_rfl) (by kernel_rfl) (fun w8 g8 => ?_)
      repeat (first | refine AL.nil ?_ | refine AL.auto (hn := ?_) | refine AL.gskip rfl rfl rfl rfl rfl ?_ | refine AL.goneSkip rfl rfl rfl rfl rfl ?_ | refine AL.gauto (hn := ?_) | refine AL.oauto (hn := ?_))
      refine AL.take rfl rfl rfl (fun w6 hg => OpW.sliceHi sl rfl rfl rfl (by have := o7.le; omega) ⟨rfl, rfl⟩) ?_
      first | refine AL.one rfl rfl ?_ | refine AL.gone rfl rfl rfl rfl rfl ?_
      refine OpW.build (cells := #[.string (bstr f.name), .slice A7 sl c7]) rfl rfl ⟨id, ?_⟩
      first | refine AL.one rfl rfl ?_ | refine AL.gone rfl rfl rfl rfl rfl ?_
      refine OpW.buildOne (.agg #[.string (bstr f.name), .slice A7 sl c7]) rfl rfl rfl ?_
      intro b9 w9 n9
      refine ⟨fun h => h.grow n9.grow, ?_⟩
      first | refine AL.one rfl rfl ?_ | refine AL.gone rfl rfl rfl rfl rfl ?_
      refine OpW.append (ys := [.string (bstr f.name), .slice A7 sl c7]) rfl rfl rfl (ho1.grow (g8.then n9.grow)) (blk_sl_lit (vs := [.string (bstr f.name), .slice A7 sl c7]) n9) rfl (one1 _ rfl) ⟨by omega, by omega⟩ (fun OA' oc' w10 o10 c10 _ => ?_)
      refine ⟨fun h => h.andThen c10, ?_⟩
      repeat (first | refine AL.nil ?_ | refine AL.auto (hn := ?_) | refine AL.gskip rfl rfl rfl rfl rfl ?_ | refine AL.goneSkip rfl rfl rfl rfl rfl ?_ | refine AL.gauto (hn := ?_) | refine AL.oauto (hn := ?_))
      repeat (first | refine WL.nil ?_ | refine WL.auto (h := ?_) | refine WL.gskip rfl rfl rfl rfl ?_ | refine WL.gauto (h := ?_) | (refine CW.seq ?_; intro K hK) | refine CW.block ?_ | refine CW.region ?_ | refine CW.skip ?_ | refine CW.exit ?_ | refine CW.ret ?_ | (refine thn_ret (K := K) ?_; clear hK K) | refine thn_ret ?_ | refine blk_ret ?_ | (refine thn_exit (K := K) ?_; clear hK K) | refine thn_exit ?_ | refine blk_here ?_ | refine blk_past rfl ?_ | refine thn_norm ?_ | refine blk_norm ?_ | refine CW.condT rfl ?_ | refine CW.condF rfl ?_ | (refine hK _ _ ?_; clear hK K))
      have g79 : Grow w7 w9 := g8.then n9.grow
      have gw10 : Grow w w10 := ((g2.then gw24).then g79).chgNew c10 (by
        rintro i hi ⟨a, ha, rfl⟩
        have h7 := (ho1.in_ ha).1.1
        omega)
      have z4 : w4.heap.size ≤ w7.heap.size := g7.size
      have z24 : w2.heap.size ≤ w4.heap.size := g4.size
      have z6 : w7.heap.size ≤ w9.heap.size := g79.size
      have z2 : w.heap.size ≤ w2.heap.size := g2.size
      have lt8 : ∀ a, A7 = some a → w4.heap.size ≤ a.block ∧ a.block < w7.heap.size := fun a ha => ⟨(o7.in_ ha).1, (o7.in_ ha).2⟩
      have hcl : cells.length = xs.length * 2 := ho1.1
      have hkn : kn + (f.data.length - f.safe) ≤ (k + 1) * 1099511627776 := by omega
      refine hJ (d.files.length - (k + 1)) _ _ (by omega) ⟨k + 1, OA', oc', kn + (f.data.length - f.safe), fun b => if b < w2.heap.size then col b else decide (w7.heap.size ≤ b), by omega, rfl, gw10, ?_, ?_, hkn, rep6 rfl ?_ rfl rfl rfl (congrArg (Value.int .i64) (by omega))⟩
      · rw [hsn1, hcf]
        refine ⟨cells ++ [.string (bstr f.name), .slice A7 sl c7], ?_, ?_⟩
        · simp only [List.length_append, List.length_cons, List.length_nil]
          refine o10.zone fun a ha => ?_
          rcases (o10.in_ ha).1 with ⟨a', h1, h2⟩ | h1
          · have h7 := (ho1.in_ h1).1
            have h8 := oa2 a' h1
            rw [h2] at h7 h8
            exact ⟨h7.1, by show (if _ then _ else _) = _; rw [if_pos h8]; exact h7.2⟩
          · exact ⟨by omega, by show (if _ then _ else _) = _; rw [if_neg (by omega)]; exact decide_eq_true (by omega)⟩
        · intro i x hx
          rcases Nat.lt_or_ge i xs.length with hi | hi
          · rw [List.getElem?_append_left hi] at hx
            obtain ⟨DA', c', p1, p2⟩ := ho2 i x hx
            refine ⟨DA', c', ?_, ?_⟩
            · rw [List.drop_append_of_le_length (by omega), List.take_append_of_le_length (by simp; omega)]
              exact p1
            · refine (((p2.grow gw24).grow g79).keep c10 ?_).zone fun a ha => ?_
              · rintro b7 hb7 ⟨a, ha, rfl⟩
                have h7 := (ho1.in_ ha).1.2
                rw [hb7.2] at h7; cases h7
              · have h7 := p2.in_ ha
                exact ⟨h7.1.1, by show (if _ then _ else _) = _; rw [if_pos h7.2]; exact h7.1.2⟩
          · have hin : i = xs.length := by
              have := (List.getElem?_eq_some_iff.1 hx).1
              simp at this; omega
            subst hin
            rw [List.getElem?_append_right (Nat.le_refl _), Nat.sub_self] at hx
            simp only [List.getElem?_cons_zero, Option.some.injEq] at hx
            subst hx
            have htl : (sb.take sl).length = sl := by simp; omega
            refine ⟨A7, c7, ?_, ?_⟩
            · rw [← hcl, List.drop_left]
              show _ = [Value.string (bstr f.name), .slice A7 (sb.take sl).length c7]
              rw [htl]; rfl
            · show Own w10 A7 5 1 (sb.take sl).length c7 (bvs (sb.take sl)) _
              rw [htl, ← bvs_take]
              have o9 := ((((o7.cut sl c7 (by omega) (by have := o7.le; omega) (Nat.le_refl _)).grow g79).keep c10 (by
                rintro b7 hb7 ⟨a, ha, rfl⟩
                have h7 := oa2 a ha
                have h8 : w4.heap.size ≤ a.block := hb7
                omega)))
              rw [Nat.mul_one] at o9
              refine o9.zone fun a ha => ?_
              have h7 := lt8 a ha
              exact ⟨by omega, by show (if _ then _ else _) = _; rw [if_neg (by omega)]; exact decide_eq_false (by omega)⟩
      · rw [hsn1, hcf]
      · rw [hsn1, hcf]; exact congrArg (fun n => Value.slice OA' n oc') (by simp)
  · obtain rfl : k = d.files.length := by omega
    rw [List.take_length] at hr
    repeat (first | refine WL.nil ?_ | refine WL.auto (h := ?_) | refine WL.gskip rfl rfl rfl rfl ?_ | refine WL.gauto (h := ?_) | (refine CW.seq ?_; intro K hK) | refine CW.block ?_ | refine CW.region ?_ | refine CW.skip ?_ | refine CW.exit ?_ | refine CW.ret ?_ | (refine thn_ret (K := K) ?_; clear hK K) | refine thn_ret ?_ | refine blk_ret ?_ | (refine thn_exit (K := K) ?_; clear hK K) | refine thn_exit ?_ | refine blk_here ?_ | refine blk_past rfl ?_ | refine thn_norm ?_ | refine blk_norm ?_ | refine CW.condT rfl ?_ | refine CW.condF rfl ?_ | (refine hK _ _ ?_; clear hK K))
    refine out1 (v := .slice OA xs.length ocap) Try.results39 rfl ⟨g2, OA, ocap, ?_, ?_⟩ (Or.inr rfl)
    · rw [hr]
    · rw [hr]
      have h9 := ho.in_
      obtain ⟨cells, y1, y2, y3, y4⟩ := h9
      refine ⟨cells, y1, fun hne a ha => (y2 hne a ha).elim And.left And.left, y3, fun i x hx => ?_⟩
      obtain ⟨DA, c, z1, z2, z3, z4⟩ := y4 i x hx
      exact ⟨DA, c, z1, z2, fun hne a ha => (z3 hne a ha).elim And.left And.left, z4⟩
end B
end Go.Proofs.Ytlofcomnhecgfaa
/- Plain: disks that are in order, whatever is called. -/
namespace Go.Proofs.Ytlofcomnhecgfaa
namespace B
set_option linter.unusedVariables false
set_option linter.unusedSimpArgs false
set_option maxRecDepth 4000

structure Good (l : List PF) : Prop where
  len : l.length ≤ 16
  nm : ∀ f ∈ l, rightName f.name = true
  nd : (l.map PF.name).Nodup
  sf : ∀ f ∈ l, f.safe ≤ f.data.length
structure Fit (d : PD) (M : Nat) : Prop where
  good : Good d.files
  arm : d.armed ≤ 9223372036854775807
  dat : ∀ f ∈ d.files, f.data.length ≤ M
theorem Fit.le {d : PD} {M M' : Nat} (h : Fit d M) (hm : M ≤ M') : Fit d M' := ⟨h.good, h.arm, fun f hf => Nat.le_trans (h.dat f hf) hm⟩
theorem Fit.dat' {d : PD} {M : Nat} (h : Fit d M) (hm : M ≤ 1099511627776) : ∀ f ∈ d.files, f.data.length ≤ 1099511627776 := fun f hf => Nat.le_trans (h.dat f hf) hm
theorem Fit.both {d : PD} {M : Nat} (h : Fit d M) (hm : M ≤ 1099511627776) : ∀ f ∈ d.files, f.data.length ≤ 1099511627776 ∧ f.safe ≤ f.data.length := fun f hf => ⟨Nat.le_trans (h.dat f hf) hm, h.good.sf f hf⟩
theorem Good.nil : Good [] := ⟨by simp, by simp, by simp, by simp⟩
theorem Fit.new : Fit ⟨[], false, 0⟩ 0 := ⟨Good.nil, by decide, by simp⟩
theorem Fit.begin {d : PD} {M : Nat} (h : Fit d M) : Fit d.begin.2.2 M := by
  have h1 := h.arm
  unfold PD.begin
  split
  · exact h
  · split
    · split
      · exact ⟨h.good, by simp, h.dat⟩
      · exact ⟨h.good, by simp only; omega, h.dat⟩
    · exact h
theorem ix_none {d : PD} {s : List UInt8} (h : d.ix s = none) : s ∉ d.files.map PF.name := by
  unfold PD.ix at h
  rw [List.findIdx?_eq_none_iff] at h
  intro hm
  obtain ⟨f, hf, rfl⟩ := List.mem_map.1 hm
  simpa using h f hf
theorem map_set_name {l : List PF} {i : Nat} {f f' : PF} (hi : l[i]? = some f) (hn : f'.name = f.name) : (l.set i f').map PF.name = l.map PF.name := by
  rw [List.map_set, hn]
  apply List.ext_getElem?
  intro j
  rw [List.getElem?_set]
  split
  · rename_i h
    subst h
    split
    · rw [List.getElem?_map, hi]; rfl
    · rename_i h2; simp at h2; rw [List.getElem?_eq_none (by simp; omega)]
  · rfl
theorem Good.set {l : List PF} {i : Nat} {f f' : PF} (h : Good l) (hi : l[i]? = some f) (hn : f'.name = f.name) (hs : f'.safe ≤ f'.data.length) : Good (l.set i f') := by
  have hf := h.nm f (List.mem_of_getElem? hi)
  refine ⟨by simpa using h.len, fun g hg => ?_, by rw [map_set_name hi hn]; exact h.nd, fun g hg => ?_⟩
  · rcases List.mem_or_eq_of_mem_set hg with hg | rfl
    · exact h.nm g hg
    · rw [hn]; exact hf
  · rcases List.mem_or_eq_of_mem_set hg with hg | rfl
    · exact h.sf g hg
    · exact hs
theorem Good.snoc {l : List PF} {f : PF} (h : Good l) (hl : l.length < 16) (hn : rightName f.name = true) (hm : f.name ∉ l.map PF.name) (hs : f.safe ≤ f.data.length) : Good (l ++ [f]) := by
  refine ⟨by simp; omega, fun g hg => ?_, ?_, fun g hg => ?_⟩
  · rcases List.mem_append.1 hg with hg | hg
    · exact h.nm g hg
    · rw [List.mem_singleton.1 hg]; exact hn
  · rw [List.map_append, List.nodup_append]
    refine ⟨h.nd, by simp, fun a ha b hb e => ?_⟩
    simp only [List.map_cons, List.map_nil, List.mem_singleton] at hb
    subst hb
    rw [e] at ha
    exact hm ha
  · rcases List.mem_append.1 hg with hg | hg
    · exact h.sf g hg
    · rw [List.mem_singleton.1 hg]; exact hs
theorem Fit.setOne {d : PD} {M : Nat} {i : Nat} {f f' : PF} (h : Fit d M) (hi : d.files[i]? = some f) (hn : f'.name = f.name) (hs : f'.safe ≤ f'.data.length) (hd : f'.data.length ≤ M) : Fit { d with files := d.files.set i f' } M := by
  refine ⟨h.good.set hi hn hs, h.arm, fun g hg => ?_⟩
  rcases List.mem_or_eq_of_mem_set hg with hg | rfl
  · exact h.dat g hg
  · exact hd
theorem Fit.append {d : PD} {M : Nat} (h : Fit d M) (s b : List UInt8) : Fit (d.append s b).2 (M + b.length) := by
  have hb := h.begin
  unfold PD.append
  generalize d.begin = r at *
  obtain ⟨dn, e, d1⟩ := r
  simp only at hb ⊢
  split
  · cases hx : d1.ix s with
    | none =>
      simp only
      split
      · exact hb.le (Nat.le_add_right _ _)
      · rename_i h1
        refine ⟨hb.good.snoc (by have := hb.good.len; have : d1.files.length ≠ 16 := fun e => h1 (Or.inr e); omega) (by cases hq : rightName s with
          | true => rfl
          | false => exact absurd (Or.inl hq) h1) (ix_none hx) (Nat.zero_le _), hb.arm, fun g hg => ?_⟩
        rcases List.mem_append.1 hg with hg | hg
        · exact Nat.le_trans (hb.dat g hg) (Nat.le_add_right _ _)
        · rw [List.mem_singleton.1 hg]; exact Nat.le_add_left _ _
    | some i =>
      simp only
      obtain ⟨f, hi, hn⟩ := ix_get hx
      rw [modify_set hi]
      have hfd := hb.dat f (List.mem_of_getElem? hi)
      have hfs := hb.good.sf f (List.mem_of_getElem? hi)
      exact (hb.le (Nat.le_add_right _ _)).setOne hi rfl (by simp; omega) (by simp; omega)
  · exact hb.le (Nat.le_add_right _ _)
theorem Fit.sync {d : PD} {M : Nat} (h : Fit d M) (s : List UInt8) : Fit (d.sync s).2 M := by
  have hb := h.begin
  unfold PD.sync
  generalize d.begin = r at *
  obtain ⟨dn, e, d1⟩ := r
  simp only at hb ⊢
  split
  · exact hb
  · cases hx : d1.ix s with
    | none => exact hb
    | some i =>
      simp only
      obtain ⟨f, hi, hn⟩ := ix_get hx
      rw [modify_set hi]
      exact hb.setOne hi rfl (Nat.le_refl _) (hb.dat f (List.mem_of_getElem? hi))
theorem Fit.truncate {d : PD} {M : Nat} (h : Fit d M) (s : List UInt8) (n : Int) : Fit (d.truncate s n).2 M := by
  have hb := h.begin
  unfold PD.truncate
  generalize d.begin = r at *
  obtain ⟨dn, e, d1⟩ := r
  simp only at hb ⊢
  split
  · exact hb
  · cases hx : d1.ix s with
    | none => exact hb
    | some i =>
      obtain ⟨f, hi, hn⟩ := ix_get hx
      have hfd := hb.dat f (List.mem_of_getElem? hi)
      have hfs := hb.good.sf f (List.mem_of_getElem? hi)
      simp only [hi, Option.map_some, Option.getD_some]
      split
      · exact hb
      · rename_i h1
        simp only
        rw [modify_set hi]
        exact hb.setOne hi rfl (by simp only [List.length_take]; omega) (by simp only [List.length_take]; omega)
theorem Fit.arm' {d : PD} {M : Nat} (h : Fit d M) (n : Int) (hn : n ≤ 9223372036854775807) : Fit (d.arm n) M := by
  unfold PD.arm
  split
  · exact h
  · exact ⟨h.good, by show n.toNat ≤ _; omega, h.dat⟩

/-! ### Load, Crash -/
def toPF (x : List UInt8 × List UInt8) : PF := ⟨x.1, x.2, x.2.length⟩
theorem ix_some_mem {l : List PF} {s : List UInt8} (h : (PD.ix ⟨l, false, 0⟩ s).isSome = true) : s ∈ l.map PF.name := by
  cases hx : PD.ix ⟨l, false, 0⟩ s with
  | none => rw [hx] at h; cases h
  | some i =>
    obtain ⟨f, hi, hn⟩ := ix_get hx
    rw [← hn]
    exact List.mem_map.2 ⟨f, List.mem_of_getElem? hi, rfl⟩
theorem loadGo_some : ∀ (xs : List (List UInt8 × List UInt8)) (acc l : List PF), Good acc → loadGo acc xs = some l → l = acc ++ xs.map toPF ∧ Good l := by
  intro xs
  induction xs with
  | nil =>
    intro acc l hg h
    rw [loadGo] at h
    cases h
    exact ⟨by simp, hg⟩
  | cons x xs ih =>
    intro acc l hg h
    rw [loadGo] at h
    split at h
    · cases h
    · rename_i h1
      have hx : PD.ix ⟨acc, false, 0⟩ x.1 = none := by
        cases hq : PD.ix ⟨acc, false, 0⟩ x.1 with
        | none => rfl
        | some i => exact absurd (Or.inr (Or.inl (by rw [hq]; rfl))) h1
      have hl := hg.len
      obtain ⟨h2, h3⟩ := ih _ _ (hg.snoc (f := toPF x) (by have : acc.length ≠ 16 := fun e => h1 (Or.inr (Or.inr e)); omega) (by
        show rightName x.1 = true
        cases hq : rightName x.1 with
        | true => rfl
        | false => exact absurd (Or.inl hq) h1) (ix_none hx) (Nat.le_refl _)) h
      exact ⟨by rw [h2]; simp [toPF], h3⟩
theorem loadGo_ok : ∀ (xs : List (List UInt8 × List UInt8)) (acc : List PF), Good (acc ++ xs.map toPF) → loadGo acc xs = some (acc ++ xs.map toPF) := by
  intro xs
  induction xs with
  | nil => intro acc _; simp [loadGo]
  | cons x xs ih =>
    intro acc hg
    have hnd := hg.nd
    have hl := hg.len
    have hr := hg.nm (toPF x) (by simp)
    simp only [List.map_append, List.map_cons, List.length_append, List.length_cons] at hnd hl
    have hx : ¬ (PD.ix ⟨acc, false, 0⟩ x.1).isSome = true := fun h => by
      have hm := ix_some_mem h
      rw [List.nodup_append] at hnd
      exact hnd.2.2 _ hm x.1 (by simp [toPF]) rfl
    rw [loadGo, if_neg (by
      rintro (h | h | h)
      · rw [show rightName x.1 = true from hr] at h; cases h
      · exact hx h
      · omega)]
    have := ih (acc ++ [⟨x.1, x.2, x.2.length⟩]) (by simpa [toPF] using hg)
    rw [this]
    simp [toPF]
theorem crash_names : ∀ (l : List PF) (ks : List Bool), (crashAll l ks).1.map Prod.fst = l.map PF.name := by
  intro l
  induction l with
  | nil => intro ks; rfl
  | cons f l ih => intro ks; simp [crashAll, ih]
theorem crash_le : ∀ (l : List PF) (ks : List Bool), (∀ f ∈ l, f.safe ≤ f.data.length) → ∀ M, (∀ f ∈ l, f.data.length ≤ M) → ∀ x ∈ (crashAll l ks).1, x.2.length ≤ M := by
  intro l
  induction l with
  | nil => intro ks _ M _ x hx; simp [crashAll] at hx
  | cons f l ih =>
    intro ks hs M hM x hx
    simp only [crashAll, List.mem_cons] at hx
    rcases hx with rfl | hx
    · have h1 := hs f (by simp)
      have h2 := crashRun_len (f := f) (ks := ks) (k := f.data.length - f.safe) (by omega)
      have h3 := hM f (by simp)
      simp only [crashFile, List.length_take]
      omega
    · exact ih _ (fun g hg => hs g (by simp [hg])) M (fun g hg => hM g (by simp [hg])) x hx
theorem crash_good {l : List PF} (h : Good l) (ks : List Bool) : Good ((crashAll l ks).1.map toPF) := by
  refine ⟨?_, fun f hf => ?_, ?_, fun f hf => ?_⟩
  · rw [List.length_map, crashAll_length]; exact h.len
  · obtain ⟨x, hx, rfl⟩ := List.mem_map.1 hf
    have h1 : x.1 ∈ (crashAll l ks).1.map Prod.fst := List.mem_map.2 ⟨x, hx, rfl⟩
    rw [crash_names] at h1
    obtain ⟨g, hg, hgn⟩ := List.mem_map.1 h1
    show rightName x.1 = true
    rw [← hgn]; exact h.nm g hg
  · rw [List.map_map, show (PF.name ∘ toPF) = Prod.fst from rfl, crash_names]; exact h.nd
  · obtain ⟨x, hx, rfl⟩ := List.mem_map.1 hf
    exact Nat.le_refl _
theorem crash_load {d : PD} {M : Nat} (h : Fit d M) (ks : List Bool) : loadGo [] (crashAll d.files ks).1 = some ((crashAll d.files ks).1.map toPF) ∧ Fit ⟨(crashAll d.files ks).1.map toPF, false, 0⟩ M ∧ (∀ x ∈ (crashAll d.files ks).1, x.1.length ≤ 32 ∧ x.2.length ≤ M) := by
  have hg := crash_good h.good ks
  refine ⟨?_, ⟨hg, Nat.zero_le _, fun f hf => ?_⟩, fun x hx => ⟨?_, crash_le _ _ h.good.sf _ h.dat x hx⟩⟩
  · have := loadGo_ok (crashAll d.files ks).1 [] (by simpa using hg)
    simpa using this
  · obtain ⟨x, hx, rfl⟩ := List.mem_map.1 hf
    exact crash_le _ _ h.good.sf _ h.dat x hx
  · have h1 := hg.nm (toPF x) (List.mem_map.2 ⟨x, hx, rfl⟩)
    unfold rightName at h1
    rw [Bool.and_eq_true, decide_eq_true_eq, decide_eq_true_eq] at h1
    exact h1.2
/-- What is all safe is left whole. -/
theorem crash_whole : ∀ (xs : List (List UInt8 × List UInt8)) (ks : List Bool), crashAll (xs.map toPF) ks = (xs, ks) := by
  intro xs
  induction xs with
  | nil => intro ks; rfl
  | cons x xs ih =>
    intro ks
    have h1 : crashFile (toPF x) ks = (x.2, ks) := by
      unfold crashFile
      simp [crashRun, toPF]
    simp only [List.map_cons, crashAll, h1, ih]
    rfl
theorem wait_whole (xs : List (List UInt8 × List UInt8)) : waitOf (xs.map toPF) = 0 := by
  unfold waitOf
  induction xs with
  | nil => rfl
  | cons x xs ih => simp only [List.map_cons, List.sum_cons, ih]; simp [toPF]

/-- One step of a script. -/
def PD.play (d : PD) (o : Op6) : PD :=
  if o.kind = 1 then (d.append o.name o.b).2 else if o.kind = 2 then (d.sync o.name).2 else if o.kind = 3 then (d.truncate o.name o.n).2 else if o.kind = 5 then d.arm o.n else d
theorem Fit.play {d : PD} {M : Nat} (h : Fit d M) (o : Op6) (hn : o.n ≤ 9223372036854775807) : Fit (d.play o) (M + o.b.length) := by
  unfold PD.play
  split
  · exact h.append _ _
  · split
    · exact (h.sync _).le (Nat.le_add_right _ _)
    · split
      · exact (h.truncate _ _).le (Nat.le_add_right _ _)
      · split
        · exact (h.arm' _ hn).le (Nat.le_add_right _ _)
        · exact h.le (Nat.le_add_right _ _)
end B
end Go.Proofs.Ytlofcomnhecgfaa
/- Disks whose blocks are none of X: every call, one disk alone or two side by side. Sizes are bounded. -/
namespace Go.Proofs.Ytlofcomnhecgfaa
namespace B
attribute [local irreducible] OpW WL CW Ret Sl Blk thn blk outOf
set_option linter.unusedVariables false
set_option linter.unusedSimpArgs false
set_option maxRecDepth 4000

/-- The blocks of X are nobody's. -/
def Free (X : Nat → Prop) (tag : Nat → Tag) (w : World) : Prop := ∀ k, X k → k < w.heap.size ∧ tag k = .other
def One (X : Nat → Prop) (w : World) (db : Nat) (d : PD) : Prop := ∃ tag, Free X tag w ∧ DiskRep tag w db d
def Two (X : Nat → Prop) (w : World) (db : Nat) (d : PD) (mb : Nat) (m : PD) : Prop := ∃ tag, Free X tag w ∧ DiskRep tag w db d ∧ RefRep tag w mb m
theorem Tag.impl_ref {t : Tag} (h : t.impl = true) : t.ref = false := by cases t <;> first | rfl | exact Bool.noConfusion h
theorem Tag.ref_impl {t : Tag} (h : t.ref = true) : ¬ t.impl = true := by cases t <;> first | exact Bool.noConfusion h | (intro h; exact Bool.noConfusion h)
section
variable {X X' : Nat → Prop} {tag tag' : Nat → Tag} {w w' : World} {db mb : Nat} {d d' m m' : PD}
theorem Free.step (h : Free X tag w) (ht : ∀ k, k < w.heap.size → tag' k = tag k) (hs : w.heap.size ≤ w'.heap.size) : Free X tag' w' := fun k hk => by
  obtain ⟨h1, h2⟩ := h k hk
  exact ⟨Nat.lt_of_lt_of_le h1 hs, by rw [ht k h1, h2]⟩
theorem Free.impl (h : Free X tag w) {S : Nat → Prop} (hc : Chg (fun b => (tag b).impl = true) w w') : Chg (fun k => ¬ X k) w w' := hc.mono fun k _ hk hx => by
  rw [(h k hx).2] at hk; cases hk
theorem Free.ref (h : Free X tag w) {S : Nat → Prop} (hc : Chg (fun b => (tag b).ref = true) w w') : Chg (fun k => ¬ X k) w w' := hc.mono fun k _ hk hx => by
  rw [(h k hx).2] at hk; cases hk
theorem DiskRep.grow (h : DiskRep tag w db d) (g : Grow w w') : DiskRep tag w' db d := by
  obtain ⟨FA, fcap, fs, h⟩ := h
  exact ⟨FA, fcap, fs, h.grow g⟩
theorem RefRep.grow (h : RefRep tag w mb m) (g : Grow w w') : RefRep tag w' mb m := by
  obtain ⟨RA, rcap, rc, h⟩ := h
  exact ⟨RA, rcap, rc, h.grow g⟩
theorem DiskRep.retag (h : DiskRep tag w db d) (ht : ∀ k, k < w.heap.size → tag' k = tag k) : DiskRep tag' w db d := by
  obtain ⟨FA, fcap, fs, h⟩ := h
  exact ⟨FA, fcap, fs, h.retag ht⟩
theorem RefRep.retag (h : RefRep tag w mb m) (ht : ∀ k, k < w.heap.size → tag' k = tag k) : RefRep tag' w mb m := by
  obtain ⟨RA, rcap, rc, h⟩ := h
  exact ⟨RA, rcap, rc, h.retag ht⟩
/-- Calls that only make memory leave a disk; new blocks become X's. -/
theorem Free.more (h : Free X tag w) (g : Grow w w') : Free (fun k => X k ∨ w.heap.size ≤ k ∧ k < w'.heap.size) (fun k => if k < w.heap.size then tag k else .other) w' := fun k hk => by
  have hs := g.size
  rcases hk with hk | hk
  · obtain ⟨h1, h2⟩ := h k hk
    exact ⟨by omega, by simp only [h1, if_true]; exact h2⟩
  · exact ⟨hk.2, by simp only [show ¬ k < w.heap.size from by omega, if_false]⟩
theorem One.grow (h : One X w db d) (g : Grow w w') : One X w' db d := by
  obtain ⟨tag, h1, h2⟩ := h
  exact ⟨tag, h1.step (fun _ _ => rfl) g.size, h2.grow g⟩
theorem One.less (h : One X w db d) (hx : ∀ k, X' k → X k) : One X' w db d := by
  obtain ⟨tag, h1, h2⟩ := h
  exact ⟨tag, fun k hk => h1 k (hx k hk), h2⟩
theorem One.more (h : One X w db d) (g : Grow w w') : One (fun k => X k ∨ w.heap.size ≤ k ∧ k < w'.heap.size) w' db d := by
  obtain ⟨tag, h1, h2⟩ := h
  exact ⟨_, h1.more g, (h2.retag fun k hk => if_pos hk).grow g⟩
theorem One.lt (h : One X w db d) {k : Nat} (hk : X k) : k < w.heap.size := by
  obtain ⟨tag, h1, h2⟩ := h
  exact (h1 k hk).1
/-- The disk's own blocks may change: what is neither X's nor new. -/
theorem One.keep (h : One X w db d) (hc : Chg X w w') : One X w' db d := by
  obtain ⟨tag, h1, ⟨FA, fcap, fs, h2⟩⟩ := h
  exact ⟨tag, h1.step (fun _ _ => rfl) hc.size, FA, fcap, fs, h2.keep hc fun b hb hx => by rw [(h1 b hx).2] at hb; cases hb⟩
theorem Two.grow (h : Two X w db d mb m) (g : Grow w w') : Two X w' db d mb m := by
  obtain ⟨tag, h1, h2, h3⟩ := h
  exact ⟨tag, h1.step (fun _ _ => rfl) g.size, h2.grow g, h3.grow g⟩
theorem Two.less (h : Two X w db d mb m) (hx : ∀ k, X' k → X k) : Two X' w db d mb m := by
  obtain ⟨tag, h1, h2⟩ := h
  exact ⟨tag, fun k hk => h1 k (hx k hk), h2⟩
theorem Two.more (h : Two X w db d mb m) (g : Grow w w') : Two (fun k => X k ∨ w.heap.size ≤ k ∧ k < w'.heap.size) w' db d mb m := by
  obtain ⟨tag, h1, h2, h3⟩ := h
  exact ⟨_, h1.more g, (h2.retag fun k hk => if_pos hk).grow g, (h3.retag fun k hk => if_pos hk).grow g⟩
theorem Two.lt (h : Two X w db d mb m) {k : Nat} (hk : X k) : k < w.heap.size := by
  obtain ⟨tag, h1, h2⟩ := h
  exact (h1 k hk).1
theorem Two.keep (h : Two X w db d mb m) (hc : Chg X w w') : Two X w' db d mb m := by
  obtain ⟨tag, h1, ⟨FA, fcap, fs, h2⟩, ⟨RA, rcap, rc, h3⟩⟩ := h
  exact ⟨tag, h1.step (fun _ _ => rfl) hc.size, ⟨FA, fcap, fs, h2.keep hc fun b hb hx => by rw [(h1 b hx).2] at hb; cases hb⟩, RA, rcap, rc, h3.keep hc fun b hb hx => by rw [(h1 b hx).2] at hb; cases hb⟩
theorem Two.one (h : Two X w db d mb m) : One X w db d := by
  obtain ⟨tag, h1, h2, h3⟩ := h
  exact ⟨tag, h1, h2⟩
/-- What was the disk's is left alone from now on. -/
theorem One.newM (h : One X w db d) (n : New w w' mb (.cells #[.slice none 0 0, .bool false, .int .i64 0] 79)) : Two X w' db d mb ⟨[], false, 0⟩ := by
  obtain ⟨tag, h1, h2⟩ := h
  refine ⟨fun k => if k < w.heap.size then tag k else .rdisk, h1.step (fun k hk => if_pos hk) n.grow.size, (h2.retag fun k hk => if_pos hk).grow n.grow, none, 0, [], ?_⟩
  exact ⟨by show (if _ then _ else _) = _; rw [if_neg (by have := n.fresh; omega)], n.blk, Own.nil _ _ _ _, fun i f h => by simp at h⟩
theorem One.of_new (hX : ∀ k, X k → k < w.heap.size) (n : New w w' db (.cells #[.slice none 0 0, .bool false, .int .i64 0] 102)) : One X w' db ⟨[], false, 0⟩ := by
  refine ⟨fun k => if k < w.heap.size then .other else .disk, fun k hk => ⟨by have := hX k hk; have := n.grow.size; omega, if_pos (hX k hk)⟩, none, 0, [], ?_⟩
  exact ⟨by show (if _ then _ else _) = _; rw [if_neg (by have := n.fresh; omega)], n.blk, Own.nil _ _ _ _, rfl, fun i f fb h => by simp at h⟩
theorem One.went (h : Free X tag w) (hw : Went tag w w' db d') : One X w' db d' ∧ Chg (fun k => ¬ X k) w w' := by
  obtain ⟨tag', h1, h2, h3⟩ := hw
  exact ⟨⟨tag', h.step h1 h3.size, h2⟩, h.impl (S := X) h3⟩
theorem Two.onD (h : Free X tag w) (hr : RefRep tag w mb m) (hw : Went tag w w' db d') : Two X w' db d' mb m ∧ Chg (fun k => ¬ X k) w w' := by
  obtain ⟨tag', h1, h2, h3⟩ := hw
  obtain ⟨RA, rcap, rc, h4⟩ := hr
  have h3' := h3.mono (T := fun k => k < w.heap.size ∧ (tag k).impl = true) fun k hk hs => ⟨hk, hs⟩
  refine ⟨⟨tag', h.step h1 h3.size, h2, ⟨RA, rcap, rc, (h4.retag h1).keep h3' fun b hb hi => ?_⟩⟩, h.impl (S := X) h3⟩
  rw [h1 b hi.1] at hb
  exact Tag.ref_impl hb hi.2
theorem Two.onM (h : Free X tag w) (hr : DiskRep tag w db d) (hw : WentR tag w w' mb m') : Two X w' db d mb m' ∧ Chg (fun k => ¬ X k) w w' := by
  obtain ⟨tag', h1, h2, h3⟩ := hw
  obtain ⟨FA, fcap, fs, h4⟩ := hr
  have h3' := h3.mono (T := fun k => k < w.heap.size ∧ (tag k).ref = true) fun k hk hs => ⟨hk, hs⟩
  refine ⟨⟨tag', h.step h1 h3.size, ⟨FA, fcap, fs, (h4.retag h1).keep h3' fun b hb hi => ?_⟩, h2⟩, h.ref (S := X) h3⟩
  rw [h1 b hi.1] at hb
  exact Tag.ref_impl hi.2 hb
theorem freshen {xs : List (List UInt8 × List UInt8)} {OA : Option Addr} {cap : Nat} {col : Nat → Bool} (ho : FilesOut w' OA cap xs (fun b => w.heap.size ≤ b ∧ col b = true) (fun b => w.heap.size ≤ b ∧ col b = false)) : FilesIn w' OA xs (fresh w) := by
  obtain ⟨cells, y1, y2, y3, y4⟩ := ho.in_
  refine ⟨cells, y1, fun hne a ha => (y2 hne a ha).elim And.left And.left, y3, fun i x hx => ?_⟩
  obtain ⟨DA, c, z1, z2, z3, z4⟩ := y4 i x hx
  exact ⟨DA, c, z1, z2, fun hne a ha => (z3 hne a ha).elim And.left And.left, z4⟩
theorem appendTD {M : Nat} (h : Two X w db d mb m) (s b : List UInt8) (B : Option Addr) (bcap : Nat) (hf : Fit d M) (hM : M ≤ 1099511627776) (hs : s.length ≤ 1099511627776) (hb : Sl w B (bvs b)) (hB : b ≠ [] → ∀ a, B = some a → X a.block) (hbl : b.length ≤ 1099511627776) :
    Ret Try.prog 33 #[.pointer (some ⟨db, 0, none⟩), .string (bstr s), .slice B b.length bcap] w fun v w' => v = .int .i64 (d.append s b).1 ∧ Two X w' db ((d.append s b).2) mb m ∧ Chg (fun k => ¬ X k) w w' := by
  obtain ⟨tag, h1, ⟨FA, fcap, fs, h2⟩, h3⟩ := h
  refine (append33 tag db d s b B bcap w ⟨FA, fcap, fs, h2⟩ hf.arm hf.good.len hs hb (fun hne a ha => by rw [(h1 _ (hB hne a ha)).2]; rfl) hbl (hf.dat' hM)).mono ?_
  rintro v w1 ⟨hv, hw⟩
  exact ⟨hv, Two.onD h1 h3 hw⟩
theorem syncTD {M : Nat} (h : Two X w db d mb m) (s : List UInt8) (hf : Fit d M) :
    Ret Try.prog 41 #[.pointer (some ⟨db, 0, none⟩), .string (bstr s)] w fun v w' => v = .int .i64 (d.sync s).1 ∧ Two X w' db ((d.sync s).2) mb m ∧ Chg (fun k => ¬ X k) w w' := by
  obtain ⟨tag, h1, ⟨FA, fcap, fs, h2⟩, h3⟩ := h
  refine (sync41 tag db FA fcap fs d s w h2 hf.arm hf.good.len).mono ?_
  rintro v w1 ⟨hv, h5, h6⟩
  exact ⟨hv, Two.onD h1 h3 ⟨tag, fun _ _ => rfl, ⟨FA, fcap, fs, h5⟩, h6⟩⟩
theorem truncateTD {M : Nat} (h : Two X w db d mb m) (s : List UInt8) (n : Int) (hf : Fit d M) :
    Ret Try.prog 56 #[.pointer (some ⟨db, 0, none⟩), .string (bstr s), .int .i64 n] w fun v w' => v = .int .i64 (d.truncate s n).1 ∧ Two X w' db ((d.truncate s n).2) mb m ∧ Chg (fun k => ¬ X k) w w' := by
  obtain ⟨tag, h1, ⟨FA, fcap, fs, h2⟩, h3⟩ := h
  refine (truncate56 tag db FA fcap fs d s n w h2 hf.arm hf.good.len).mono ?_
  rintro v w1 ⟨hv, h5, h6⟩
  exact ⟨hv, Two.onD h1 h3 ⟨tag, fun _ _ => rfl, ⟨FA, fcap, fs, h5⟩, h6⟩⟩
theorem armTD (h : Two X w db d mb m) (n : Int) :
    Ret Try.prog 32 #[.pointer (some ⟨db, 0, none⟩), .int .i64 n] w fun v w' => Two X w' db (d.arm n) mb m ∧ Chg (fun k => ¬ X k) w w' := by
  obtain ⟨tag, h1, ⟨FA, fcap, fs, h2⟩, h3⟩ := h
  refine (arm32 tag db FA fcap fs d n w h2).mono ?_
  rintro v w1 ⟨h5, h6⟩
  exact Two.onD h1 h3 ⟨tag, fun _ _ => rfl, ⟨FA, fcap, fs, h5⟩, h2.toImpl h6⟩
theorem downTD (h : Two X w db d mb m) :
    Ret Try.prog 34 #[.pointer (some ⟨db, 0, none⟩)] w fun v w' => v = .bool d.off ∧ Grow w w' := by
  obtain ⟨tag, h1, ⟨FA, fcap, fs, h2⟩, h3⟩ := h
  exact down34 tag db FA fcap fs d w h2
theorem readTD {M : Nat} (h : Two X w db d mb m) (s : List UInt8) (hf : Fit d M) (hM : M ≤ 1099511627776) :
    Ret Try.prog 42 #[.pointer (some ⟨db, 0, none⟩), .string (bstr s)] w fun v w' => Grow w w' ∧ ∃ A cap, v = .tuple #[.slice A (d.read s).1.length cap, .int .i64 (d.read s).2] ∧ Own w' A 5 1 (d.read s).1.length cap (bvs (d.read s).1) (fresh w) := by
  obtain ⟨tag, h1, ⟨FA, fcap, fs, h2⟩, h3⟩ := h
  exact read42 tag db FA fcap fs d s w h2 hf.good.len (hf.dat' hM)
theorem waitingTD {M : Nat} (h : Two X w db d mb m) (hf : Fit d M) (hM : M ≤ 1099511627776) :
    Ret Try.prog 40 #[.pointer (some ⟨db, 0, none⟩)] w fun v w' => Grow w w' ∧ v = .int .i64 (waitOf d.files) := by
  obtain ⟨tag, h1, ⟨FA, fcap, fs, h2⟩, h3⟩ := h
  exact waiting40 tag db FA fcap fs d w h2 hf.good.len (hf.both hM)
theorem crashTD {M : Nat} (h : Two X w db d mb m) (KA0 : Option Addr) (kcap0 : Nat) (ks : List Bool) (hf : Fit d M) (hM : M ≤ 1099511627776) (hk : Sl w KA0 (ks.map .bool)) (hkl : ks.length ≤ 1099511627776) (hkc : ks.length ≤ kcap0) :
    Ret Try.prog 38 #[.pointer (some ⟨db, 0, none⟩), .slice KA0 ks.length kcap0] w fun v w' => Grow w w' ∧ ∃ (OA : Option Addr) (cap : Nat), v = .slice OA (crashAll d.files ks).1.length cap ∧ FilesIn w' OA (crashAll d.files ks).1 (fresh w) := by
  obtain ⟨tag, h1, ⟨FA, fcap, fs, h2⟩, h3⟩ := h
  refine (crash38 tag db FA fcap fs d KA0 kcap0 ks w h2 hf.good.len (hf.both hM) hk hkl hkc).mono ?_
  rintro v w1 ⟨g1, OA, cap, col, hv, ho⟩
  exact ⟨g1, OA, cap, hv, freshen ho⟩
/-- A disk made anew in its place. -/
theorem loadTD (h : Two X w db d mb m) (A : Option Addr) (cap : Nat) (xs : List (List UInt8 × List UInt8)) (Z : Nat → Prop) (l : List PF) (hx : FilesIn w A xs Z) (hl : xs.length ≤ 1099511627776) (hs : ∀ x ∈ xs, x.1.length ≤ 1099511627776 ∧ x.2.length ≤ 1099511627776) (hg : loadGo [] xs = some l) :
    Ret Try.prog 35 #[.slice A xs.length cap] w fun v w' => ∃ db', v = .tuple #[.pointer (some ⟨db', 0, none⟩), .int .i64 0] ∧ Grow w w' ∧ Two X w' db' ⟨l, false, 0⟩ mb m := by
  obtain ⟨tag, h1, ⟨FA, fcap, fs, h2⟩, h3⟩ := h
  refine (load35 tag A cap xs Z w hx hl hs).mono ?_
  rintro v w1 ⟨g1, hL⟩
  rw [hg] at hL
  obtain ⟨db', tag', rfl, ht, hd⟩ := hL
  exact ⟨db', rfl, g1, tag', h1.step ht g1.size, hd, (h3.retag ht).grow g1⟩
theorem appendOD {M : Nat} (h : One X w db d) (s b : List UInt8) (B : Option Addr) (bcap : Nat) (hf : Fit d M) (hM : M ≤ 1099511627776) (hs : s.length ≤ 1099511627776) (hb : Sl w B (bvs b)) (hB : b ≠ [] → ∀ a, B = some a → X a.block) (hbl : b.length ≤ 1099511627776) :
    Ret Try.prog 33 #[.pointer (some ⟨db, 0, none⟩), .string (bstr s), .slice B b.length bcap] w fun v w' => v = .int .i64 (d.append s b).1 ∧ One X w' db ((d.append s b).2) ∧ Chg (fun k => ¬ X k) w w' := by
  obtain ⟨tag, h1, ⟨FA, fcap, fs, h2⟩⟩ := h
  refine (append33 tag db d s b B bcap w ⟨FA, fcap, fs, h2⟩ hf.arm hf.good.len hs hb (fun hne a ha => by rw [(h1 _ (hB hne a ha)).2]; rfl) hbl (hf.dat' hM)).mono ?_
  rintro v w1 ⟨hv, hw⟩
  exact ⟨hv, One.went h1 hw⟩
theorem syncOD {M : Nat} (h : One X w db d) (s : List UInt8) (hf : Fit d M) :
    Ret Try.prog 41 #[.pointer (some ⟨db, 0, none⟩), .string (bstr s)] w fun v w' => v = .int .i64 (d.sync s).1 ∧ One X w' db ((d.sync s).2) ∧ Chg (fun k => ¬ X k) w w' := by
  obtain ⟨tag, h1, ⟨FA, fcap, fs, h2⟩⟩ := h
  refine (sync41 tag db FA fcap fs d s w h2 hf.arm hf.good.len).mono ?_
  rintro v w1 ⟨hv, h5, h6⟩
  exact ⟨hv, One.went h1 ⟨tag, fun _ _ => rfl, ⟨FA, fcap, fs, h5⟩, h6⟩⟩
theorem truncateOD {M : Nat} (h : One X w db d) (s : List UInt8) (n : Int) (hf : Fit d M) :
    Ret Try.prog 56 #[.pointer (some ⟨db, 0, none⟩), .string (bstr s), .int .i64 n] w fun v w' => v = .int .i64 (d.truncate s n).1 ∧ One X w' db ((d.truncate s n).2) ∧ Chg (fun k => ¬ X k) w w' := by
  obtain ⟨tag, h1, ⟨FA, fcap, fs, h2⟩⟩ := h
  refine (truncate56 tag db FA fcap fs d s n w h2 hf.arm hf.good.len).mono ?_
  rintro v w1 ⟨hv, h5, h6⟩
  exact ⟨hv, One.went h1 ⟨tag, fun _ _ => rfl, ⟨FA, fcap, fs, h5⟩, h6⟩⟩
theorem armOD (h : One X w db d) (n : Int) :
    Ret Try.prog 32 #[.pointer (some ⟨db, 0, none⟩), .int .i64 n] w fun v w' => One X w' db (d.arm n) ∧ Chg (fun k => ¬ X k) w w' := by
  obtain ⟨tag, h1, ⟨FA, fcap, fs, h2⟩⟩ := h
  refine (arm32 tag db FA fcap fs d n w h2).mono ?_
  rintro v w1 ⟨h5, h6⟩
  exact One.went h1 ⟨tag, fun _ _ => rfl, ⟨FA, fcap, fs, h5⟩, h2.toImpl h6⟩
theorem downOD (h : One X w db d) :
    Ret Try.prog 34 #[.pointer (some ⟨db, 0, none⟩)] w fun v w' => v = .bool d.off ∧ Grow w w' := by
  obtain ⟨tag, h1, ⟨FA, fcap, fs, h2⟩⟩ := h
  exact down34 tag db FA fcap fs d w h2
theorem readOD {M : Nat} (h : One X w db d) (s : List UInt8) (hf : Fit d M) (hM : M ≤ 1099511627776) :
    Ret Try.prog 42 #[.pointer (some ⟨db, 0, none⟩), .string (bstr s)] w fun v w' => Grow w w' ∧ ∃ A cap, v = .tuple #[.slice A (d.read s).1.length cap, .int .i64 (d.read s).2] ∧ Own w' A 5 1 (d.read s).1.length cap (bvs (d.read s).1) (fresh w) := by
  obtain ⟨tag, h1, ⟨FA, fcap, fs, h2⟩⟩ := h
  exact read42 tag db FA fcap fs d s w h2 hf.good.len (hf.dat' hM)
theorem waitingOD {M : Nat} (h : One X w db d) (hf : Fit d M) (hM : M ≤ 1099511627776) :
    Ret Try.prog 40 #[.pointer (some ⟨db, 0, none⟩)] w fun v w' => Grow w w' ∧ v = .int .i64 (waitOf d.files) := by
  obtain ⟨tag, h1, ⟨FA, fcap, fs, h2⟩⟩ := h
  exact waiting40 tag db FA fcap fs d w h2 hf.good.len (hf.both hM)
theorem crashOD {M : Nat} (h : One X w db d) (KA0 : Option Addr) (kcap0 : Nat) (ks : List Bool) (hf : Fit d M) (hM : M ≤ 1099511627776) (hk : Sl w KA0 (ks.map .bool)) (hkl : ks.length ≤ 1099511627776) (hkc : ks.length ≤ kcap0) :
    Ret Try.prog 38 #[.pointer (some ⟨db, 0, none⟩), .slice KA0 ks.length kcap0] w fun v w' => Grow w w' ∧ ∃ (OA : Option Addr) (cap : Nat), v = .slice OA (crashAll d.files ks).1.length cap ∧ FilesIn w' OA (crashAll d.files ks).1 (fresh w) := by
  obtain ⟨tag, h1, ⟨FA, fcap, fs, h2⟩⟩ := h
  refine (crash38 tag db FA fcap fs d KA0 kcap0 ks w h2 hf.good.len (hf.both hM) hk hkl hkc).mono ?_
  rintro v w1 ⟨g1, OA, cap, col, hv, ho⟩
  exact ⟨g1, OA, cap, hv, freshen ho⟩
/-- A disk made anew in its place. -/
theorem loadOD (h : One X w db d) (A : Option Addr) (cap : Nat) (xs : List (List UInt8 × List UInt8)) (Z : Nat → Prop) (l : List PF) (hx : FilesIn w A xs Z) (hl : xs.length ≤ 1099511627776) (hs : ∀ x ∈ xs, x.1.length ≤ 1099511627776 ∧ x.2.length ≤ 1099511627776) (hg : loadGo [] xs = some l) :
    Ret Try.prog 35 #[.slice A xs.length cap] w fun v w' => ∃ db', v = .tuple #[.pointer (some ⟨db', 0, none⟩), .int .i64 0] ∧ Grow w w' ∧ One X w' db' ⟨l, false, 0⟩ := by
  obtain ⟨tag, h1, ⟨FA, fcap, fs, h2⟩⟩ := h
  refine (load35 tag A cap xs Z w hx hl hs).mono ?_
  rintro v w1 ⟨g1, hL⟩
  rw [hg] at hL
  obtain ⟨db', tag', rfl, ht, hd⟩ := hL
  exact ⟨db', rfl, g1, tag', h1.step ht g1.size, hd⟩
theorem appendTM {M : Nat} (h : Two X w db d mb m) (s b : List UInt8) (B : Option Addr) (bcap : Nat) (hf : Fit m M) (hM : M ≤ 1099511627776) (hs : s.length ≤ 1099511627776) (hb : Sl w B (bvs b)) (hB : b ≠ [] → ∀ a, B = some a → X a.block) (hbl : b.length ≤ 1099511627776) :
    Ret Try.prog 83 #[.pointer (some ⟨mb, 0, none⟩), .string (bstr s), .slice B b.length bcap] w fun v w' => v = .int .i64 (m.append s b).1 ∧ Two X w' db d mb ((m.append s b).2) ∧ Chg (fun k => ¬ X k) w w' := by
  obtain ⟨tag, h1, h2, ⟨RA, rcap, rc, h3⟩⟩ := h
  refine (rappend83 tag mb m s b B bcap w ⟨RA, rcap, rc, h3⟩ hf.arm hf.good.len hs hb (fun hne a ha => by rw [(h1 _ (hB hne a ha)).2]; rfl) hbl (hf.dat' hM)).mono ?_
  rintro v w1 ⟨hv, hw⟩
  exact ⟨hv, Two.onM h1 h2 hw⟩
theorem syncTM {M : Nat} (h : Two X w db d mb m) (s : List UInt8) (hf : Fit m M) :
    Ret Try.prog 84 #[.pointer (some ⟨mb, 0, none⟩), .string (bstr s)] w fun v w' => v = .int .i64 (m.sync s).1 ∧ Two X w' db d mb ((m.sync s).2) ∧ Chg (fun k => ¬ X k) w w' := by
  obtain ⟨tag, h1, h2, ⟨RA, rcap, rc, h3⟩⟩ := h
  refine (rsync84 tag mb RA rcap rc m s w h3 hf.arm hf.good.len).mono ?_
  rintro v w1 ⟨hv, h5, h6⟩
  exact ⟨hv, Two.onM h1 h2 ⟨tag, fun _ _ => rfl, h5, h6⟩⟩
theorem truncateTM {M : Nat} (h : Two X w db d mb m) (s : List UInt8) (n : Int) (hf : Fit m M) :
    Ret Try.prog 85 #[.pointer (some ⟨mb, 0, none⟩), .string (bstr s), .int .i64 n] w fun v w' => v = .int .i64 (m.truncate s n).1 ∧ Two X w' db d mb ((m.truncate s n).2) ∧ Chg (fun k => ¬ X k) w w' := by
  obtain ⟨tag, h1, h2, ⟨RA, rcap, rc, h3⟩⟩ := h
  refine (rtruncate85 tag mb RA rcap rc m s n w h3 hf.arm hf.good.len).mono ?_
  rintro v w1 ⟨hv, h5, h6⟩
  exact ⟨hv, Two.onM h1 h2 ⟨tag, fun _ _ => rfl, h5, h6⟩⟩
theorem armTM (h : Two X w db d mb m) (n : Int) :
    Ret Try.prog 68 #[.pointer (some ⟨mb, 0, none⟩), .int .i64 n] w fun v w' => Two X w' db d mb (m.arm n) ∧ Chg (fun k => ¬ X k) w w' := by
  obtain ⟨tag, h1, h2, ⟨RA, rcap, rc, h3⟩⟩ := h
  refine (arm68 tag mb RA rcap rc m n w h3).mono ?_
  rintro v w1 ⟨h5, h6⟩
  exact Two.onM h1 h2 ⟨tag, fun _ _ => rfl, ⟨_, _, _, h5⟩, h3.toRef h6⟩
theorem readTM {M : Nat} (h : Two X w db d mb m) (s : List UInt8) (hf : Fit m M) (hM : M ≤ 1099511627776) :
    Ret Try.prog 86 #[.pointer (some ⟨mb, 0, none⟩), .string (bstr s)] w fun v w' => Grow w w' ∧ ∃ A cap, v = .tuple #[.slice A (m.read s).1.length cap, .int .i64 (m.read s).2] ∧ Own w' A 5 1 (m.read s).1.length cap (bvs (m.read s).1) (fresh w) := by
  obtain ⟨tag, h1, h2, ⟨RA, rcap, rc, h3⟩⟩ := h
  exact rread86 tag mb RA rcap rc m s w h3 hf.good.len (hf.dat' hM)
theorem waitingTM {M : Nat} (h : Two X w db d mb m) (hf : Fit m M) (hM : M ≤ 1099511627776) :
    Ret Try.prog 58 #[.pointer (some ⟨mb, 0, none⟩)] w fun v w' => Grow w w' ∧ v = .int .i64 (waitOf m.files) := by
  obtain ⟨tag, h1, h2, ⟨RA, rcap, rc, h3⟩⟩ := h
  exact waiting58 tag mb RA rcap rc m w h3 hf.good.len (hf.both hM)
theorem crashTM {M : Nat} (h : Two X w db d mb m) (KA0 : Option Addr) (kcap0 : Nat) (ks : List Bool) (hf : Fit m M) (hM : M ≤ 1099511627776) (hk : Sl w KA0 (ks.map .bool)) (hkl : ks.length ≤ 1099511627776) :
    Ret Try.prog 39 #[.pointer (some ⟨mb, 0, none⟩), .slice KA0 ks.length kcap0] w fun v w' => Grow w w' ∧ ∃ (OA : Option Addr) (cap : Nat), v = .slice OA (crashAll m.files ks).1.length cap ∧ FilesIn w' OA (crashAll m.files ks).1 (fresh w) := by
  obtain ⟨tag, h1, h2, ⟨RA, rcap, rc, h3⟩⟩ := h
  exact rcrash39 tag mb RA rcap rc m KA0 kcap0 ks w h3 hf.good.len (hf.both hM) hk hkl
theorem loadTM (h : Two X w db d mb m) (A : Option Addr) (cap : Nat) (xs : List (List UInt8 × List UInt8)) (Z : Nat → Prop) (l : List PF) (hx : FilesIn w A xs Z) (hl : xs.length ≤ 1099511627776) (hs : ∀ x ∈ xs, x.1.length ≤ 1099511627776 ∧ x.2.length ≤ 1099511627776) (hg : loadGo [] xs = some l) :
    Ret Try.prog 36 #[.slice A xs.length cap] w fun v w' => ∃ mb', v = .tuple #[.pointer (some ⟨mb', 0, none⟩), .int .i64 0] ∧ Grow w w' ∧ Two X w' db d mb' ⟨l, false, 0⟩ := by
  obtain ⟨tag, h1, h2, ⟨RA, rcap, rc, h3⟩⟩ := h
  refine (rload36 tag A cap xs Z w hx hl hs).mono ?_
  rintro v w1 ⟨g1, hL⟩
  rw [hg] at hL
  obtain ⟨mb', tag', rfl, ht, hd⟩ := hL
  exact ⟨mb', rfl, g1, tag', h1.step ht g1.size, (h2.retag ht).grow g1, hd⟩
theorem blkM (h : Two X w db d mb m) : ∃ RA rcap, Blk w mb #[.slice RA m.files.length rcap, .bool m.off, .int .i64 (m.armed : Int)] 79 ∧ ¬ X mb := by
  obtain ⟨tag, h1, h2, ⟨RA, rcap, rc, h3⟩⟩ := h
  exact ⟨RA, rcap, h3.blk, fun hx => by have := (h1 mb hx).2; rw [h3.tg] at this; cases this⟩
/-- A disk is made of these files, or they are refused. -/
theorem loadOne (hX : ∀ k, X k → k < w.heap.size) (A : Option Addr) (cap : Nat) (xs : List (List UInt8 × List UInt8)) (Z : Nat → Prop) (hx : FilesIn w A xs Z) (hl : xs.length ≤ 1099511627776) (hs : ∀ x ∈ xs, x.1.length ≤ 1099511627776 ∧ x.2.length ≤ 1099511627776) :
    Ret Try.prog 35 #[.slice A xs.length cap] w fun v w1 => Grow w w1 ∧ (loadGo [] xs = none → v = .tuple #[.pointer none, .int .i64 50]) ∧ (∀ l, loadGo [] xs = some l → ∃ db, v = .tuple #[.pointer (some ⟨db, 0, none⟩), .int .i64 0] ∧ One X w1 db ⟨l, false, 0⟩) := by
  refine (load35 (fun _ => .other) A cap xs Z w hx hl hs).mono ?_
  rintro v w1 ⟨g1, hL⟩
  refine ⟨g1, fun hn => ?_, fun l hg => ?_⟩
  · rw [hn] at hL; exact hL
  · rw [hg] at hL
    obtain ⟨db, tag', rfl, ht, hd⟩ := hL
    exact ⟨db, rfl, tag', fun k hk => ⟨by have := hX k hk; have := g1.size; omega, by rw [ht k (hX k hk)]⟩, hd⟩
/-- The document's disk is made of these files beside another, or they are refused. -/
theorem loadRef (h : One X w db d) (A : Option Addr) (cap : Nat) (xs : List (List UInt8 × List UInt8)) (Z : Nat → Prop) (hx : FilesIn w A xs Z) (hl : xs.length ≤ 1099511627776) (hs : ∀ x ∈ xs, x.1.length ≤ 1099511627776 ∧ x.2.length ≤ 1099511627776) :
    Ret Try.prog 36 #[.slice A xs.length cap] w fun v w1 => Grow w w1 ∧ (loadGo [] xs = none → ∃ mb, v = .tuple #[.pointer (some ⟨mb, 0, none⟩), .int .i64 50]) ∧ (∀ l, loadGo [] xs = some l → ∃ mb, v = .tuple #[.pointer (some ⟨mb, 0, none⟩), .int .i64 0] ∧ Two X w1 db d mb ⟨l, false, 0⟩) := by
  obtain ⟨tag, h1, h2⟩ := h
  refine (rload36 tag A cap xs Z w hx hl hs).mono ?_
  rintro v w1 ⟨g1, hL⟩
  refine ⟨g1, fun hn => ?_, fun l hg => ?_⟩
  · rw [hn] at hL; exact hL
  · rw [hg] at hL
    obtain ⟨mb, tag', rfl, ht, hd⟩ := hL
    exact ⟨mb, rfl, tag', h1.step ht g1.size, (h2.retag ht).grow g1, hd⟩
theorem loadRefNone (A : Option Addr) (cap : Nat) (xs : List (List UInt8 × List UInt8)) (Z : Nat → Prop) (hx : FilesIn w A xs Z) (hl : xs.length ≤ 1099511627776) (hs : ∀ x ∈ xs, x.1.length ≤ 1099511627776 ∧ x.2.length ≤ 1099511627776) (hn : loadGo [] xs = none) :
    Ret Try.prog 36 #[.slice A xs.length cap] w fun v w1 => Grow w w1 ∧ ∃ mb, v = .tuple #[.pointer (some ⟨mb, 0, none⟩), .int .i64 50] := by
  refine (rload36 (fun _ => .other) A cap xs Z w hx hl hs).mono ?_
  rintro v w1 ⟨g1, hL⟩
  rw [hn] at hL
  exact ⟨g1, hL⟩
end
end B
end Go.Proofs.Ytlofcomnhecgfaa
/- play of layer 6: one call on a disk and on the document's. Sizes are bounded. -/
namespace Go.Proofs.Ytlofcomnhecgfaa
namespace B
attribute [local irreducible] OpW WL CW Ret Sl Blk thn blk outOf
set_option linter.unusedVariables false
set_option linter.unusedSimpArgs false
set_option maxRecDepth 4000

theorem play57 {X : Nat → Prop} {w : World} {db mb : Nat} {d m : PD} {M : Nat} (h : Two X w db d mb m) (o : Op6) (A KA : Option Addr) (cap kcap : Nat) (hA : Sl w A (bvs o.b)) (hAX : o.b ≠ [] → ∀ a, A = some a → X a.block) (hk : Sl w KA (o.keep.map .bool)) (hkX : o.keep.map Value.bool ≠ [] → ∀ a, KA = some a → X a.block)
    (hkc : o.keep.length ≤ kcap) (hf : Fit d M) (hg : Fit m M) (hM : M ≤ 1099511627776) (hl : o.name.length ≤ 1048576 ∧ o.b.length ≤ 1048576 ∧ o.keep.length ≤ 1048576) :
    Ret Try.prog 57 #[.pointer (some ⟨db, 0, none⟩), .pointer (some ⟨mb, 0, none⟩), .agg #[.int .i64 o.kind, .int .i64 o.n, .string (bstr o.name), .slice A o.b.length cap, .slice KA o.keep.length kcap]] w fun v w' =>
      ∃ r, v = .bool r ∧ (d = m → r = true) ∧ Two X w' db (d.play o) mb (m.play o) ∧ Chg (fun k => ¬ X k) w w' := by
  obtain ⟨kind, n, name, b, keep⟩ := o
  simp only at hA hAX hk hkX hkc hl
  obtain ⟨hl1, hl2, hl3⟩ := hl
  refine Ret.enter (fn := Try.f57) (N := 117) Try.func57 rfl Try.ntmps57 rfl ?_
  repeat (first | refine WL.nil ?_ | refine WL.auto (h := ?_) | refine WL.gskip rfl rfl rfl rfl ?_ | refine WL.gauto (h := ?_) | (refine CW.seq ?_; intro K hK) | refine CW.block ?_ | refine CW.region ?_ | refine CW.skip ?_ | refine CW.exit ?_ | refine CW.ret ?_ | (refine thn_ret (K := K) ?_; clear hK K) | refine thn_ret ?_ | refine blk_ret ?_ | (refine thn_exit (K := K) ?_; clear hK K) | refine thn_exit ?_ | refine blk_here ?_ | refine blk_past rfl ?_ | refine thn_norm ?_ | refine blk_norm ?_ | refine CW.condT rfl ?_ | refine CW.condF rfl ?_ | (refine hK _ _ ?_; clear hK K))
  first | refine WL.step rfl ?_ | refine WL.gstep rfl rfl rfl rfl ?_
  refine OpW.box (v := .agg _) rfl ?_
  intro bo w1 n1
  have hb : Blk w1 bo #[.int .i64 kind, .int .i64 n, .string (bstr name), .slice A b.length cap, .slice KA keep.length kcap] 75 := n1.blk
  have h1 := h.more n1.grow
  obtain ⟨X1, hX1⟩ : ∃ X1, X1 = (fun k => X k ∨ w.heap.size ≤ k ∧ k < w1.heap.size) := ⟨_, rfl⟩
  rw [← hX1] at h1
  have hXX : ∀ k, X k → X1 k := fun k hk => by rw [hX1]; exact Or.inl hk
  have hbo : ¬ (fun k => ¬ X1 k) bo := fun hn => hn (by rw [hX1]; exact Or.inr ⟨n1.fresh, hb.lt⟩)
  clear hX1
  have hA1 := hA.grow n1.grow
  have hk1 := hk.grow n1.grow
  have hAX1 : b ≠ [] → ∀ a, A = some a → X1 a.block := fun hne a ha => hXX _ (hAX hne a ha)
  have hkX1 : keep.map Value.bool ≠ [] → ∀ a, KA = some a → X1 a.block := fun hne a ha => hXX _ (hkX hne a ha)
  have fin : ∀ {w' : World} {d' m' : PD}, Two X1 w' db d' mb m' → Chg (fun k => ¬ X1 k) w1 w' → Two X w' db d' mb m' ∧ Chg (fun k => ¬ X k) w w' := fun h2 c2 =>
    ⟨h2.less hXX, Grow.chg n1.grow (c2.mono fun k _ hk hx => hk (hXX k hx))⟩
  repeat (first | refine WL.nil ?_ | refine WL.auto (h := ?_) | refine WL.gskip rfl rfl rfl rfl ?_ | refine WL.gauto (h := ?_) | (refine CW.seq ?_; intro K hK) | refine CW.block ?_ | refine CW.region ?_ | refine CW.skip ?_ | refine CW.exit ?_ | refine CW.ret ?_ | (refine thn_ret (K := K) ?_; clear hK K) | refine thn_ret ?_ | refine blk_ret ?_ | (refine thn_exit (K := K) ?_; clear hK K) | refine thn_exit ?_ | refine blk_here ?_ | refine blk_past rfl ?_ | refine thn_norm ?_ | refine blk_norm ?_ | refine CW.condT rfl ?_ | refine CW.condF rfl ?_ | (refine hK _ _ ?_; clear hK K))
  by_cases k1 : kind = 1
  · have e1 : ∀ d : PD, d.play ⟨kind, n, name, b, keep⟩ = (d.append name b).2 := fun d => by unfold PD.play; rw [if_pos k1]
    rw [decide_eq_true k1]
    repeat (first | refine WL.nil ?_ | refine WL.auto (h := ?_) | refine WL.gskip rfl rfl rfl rfl ?_ | refine WL.gauto (h := ?_) | (refine CW.seq ?_; intro K hK) | refine CW.block ?_ | refine CW.region ?_ | refine CW.skip ?_ | refine CW.exit ?_ | refine CW.ret ?_ | (refine thn_ret (K := K) ?_; clear hK K) | refine thn_ret ?_ | refine blk_ret ?_ | (refine thn_exit (K := K) ?_; clear hK K) | refine thn_exit ?_ | refine blk_here ?_ | refine blk_past rfl ?_ | refine thn_norm ?_ | refine blk_norm ?_ | refine CW.condT rfl ?_ | refine CW.condF rfl ?_ | (refine hK _ _ ?_; clear hK K))
    refine CW.held (fun k => ¬ X1 k) (.take 0 (.take 1 (.take 2 (.take 3 (.take 4 (.take 6 (.take 7 (.take 8 (.take 9 (.take 10 (.one 5 (.one 11 (.take 12 (.one 13 .nil)))))))))))))) rfl (by kernel_rfl) (by kernel_rfl) (fun w2 g2 => ?_)
    have h2 := h1.grow g2
    repeat (first | refine AL.nil ?_ | refine AL.auto (hn := ?_) | refine AL.gskip rfl rfl rfl rfl rfl ?_ | refine AL.goneSkip rfl rfl rfl rfl rfl ?_ | refine AL.gauto (hn := ?_) | refine AL.oauto (hn := ?_))
    first | refine AL.one rfl rfl ?_ | refine AL.gone rfl rfl rfl rfl rfl ?_
    refine OpW.call ((appendTD h2 name b A cap hf hM (by omega) (hA1.grow g2) hAX1 (by omega)).mono ?_) rfl
    rintro v w3 ⟨rfl, h3, c3⟩
    refine ⟨fun h => h.andThen c3, ?_⟩
    repeat (first | refine AL.nil ?_ | refine AL.auto (hn := ?_) | refine AL.gskip rfl rfl rfl rfl rfl ?_ | refine AL.goneSkip rfl rfl rfl rfl rfl ?_ | refine AL.gauto (hn := ?_) | refine AL.oauto (hn := ?_))
    first | refine AL.one rfl rfl ?_ | refine AL.gone rfl rfl rfl rfl rfl ?_
    refine OpW.call ((appendTM h3 name b A cap hg hM (by omega) ((hA1.grow g2).keepN c3 fun hne a ha hn => hn (hAX1 (bvs_ne hne) a ha)) hAX1 (by omega)).mono ?_) rfl
    rintro v w4 ⟨rfl, h4, c4⟩
    refine ⟨fun h => h.andThen c4, ?_⟩
    repeat (first | refine AL.nil ?_ | refine AL.auto (hn := ?_) | refine AL.gskip rfl rfl rfl rfl rfl ?_ | refine AL.goneSkip rfl rfl rfl rfl rfl ?_ | refine AL.gauto (hn := ?_) | refine AL.oauto (hn := ?_))
    repeat (first | refine WL.nil ?_ | refine WL.auto (h := ?_) | refine WL.gskip rfl rfl rfl rfl ?_ | refine WL.gauto (h := ?_) | (refine CW.seq ?_; intro K hK) | refine CW.block ?_ | refine CW.region ?_ | refine CW.skip ?_ | refine CW.exit ?_ | refine CW.ret ?_ | (refine thn_ret (K := K) ?_; clear hK K) | refine thn_ret ?_ | refine blk_ret ?_ | (refine thn_exit (K := K) ?_; clear hK K) | refine thn_exit ?_ | refine blk_here ?_ | refine blk_past rfl ?_ | refine thn_norm ?_ | refine blk_norm ?_ | refine CW.condT rfl ?_ | refine CW.condF rfl ?_ | (refine hK _ _ ?_; clear hK K))
    refine out1 Try.results57 rfl ⟨_, rfl, fun e => by rw [e]; exact decide_eq_true rfl, ?_⟩ (Or.inr rfl)
    rw [e1, e1]
    exact fin h4 ((Grow.chg g2 c3).andThen c4)
  rw [decide_eq_false k1]
  repeat (first | refine WL.nil ?_ | refine WL.auto (h := ?_) | refine WL.gskip rfl rfl rfl rfl ?_ | refine WL.gauto (h := ?_) | (refine CW.seq ?_; intro K hK) | refine CW.block ?_ | refine CW.region ?_ | refine CW.skip ?_ | refine CW.exit ?_ | refine CW.ret ?_ | (refine thn_ret (K := K) ?_; clear hK K) | refine thn_ret ?_ | refine blk_ret ?_ | (refine thn_exit (K := K) ?_; clear hK K) | refine thn_exit ?_ | refine blk_here ?_ | refine blk_past rfl ?_ | refine thn_norm ?_ | refine blk_norm ?_ | refine CW.condT rfl ?_ | refine CW.condF rfl ?_ | (refine hK _ _ ?_; clear hK K))
  by_cases k2 : kind = 2
  · have e1 : ∀ d : PD, d.play ⟨kind, n, name, b, keep⟩ = (d.sync name).2 := fun d => by unfold PD.play; rw [if_neg k1, if_pos k2]
    rw [decide_eq_true k2]
    repeat (first | refine WL.nil ?_ | refine WL.auto (h := ?_) | refine WL.gskip rfl rfl rfl rfl ?_ | refine WL.gauto (h := ?_) | (refine CW.seq ?_; intro K hK) | refine CW.block ?_ | refine CW.region ?_ | refine CW.skip ?_ | refine CW.exit ?_ | refine CW.ret ?_ | (refine thn_ret (K := K) ?_; clear hK K) | refine thn_ret ?_ | refine blk_ret ?_ | (refine thn_exit (K := K) ?_; clear hK K) | refine thn_exit ?_ | refine blk_here ?_ | refine blk_past rfl ?_ | refine thn_norm ?_ | refine blk_norm ?_ | refine CW.condT rfl ?_ | refine CW.condF rfl ?_ | (refine hK _ _ ?_; clear hK K))
    refine CW.held (fun k => ¬ X1 k) (.take 0 (.take 1 (.take 2 (.take 4 (.take 5 (.take 6 (.one 3 (.one 7 (.take 8 (.one 9 .nil)))))))))) rfl (by kernel_rfl) (by kernel_rfl) (fun w2 g2 => ?_)
    have h2 := h1.grow g2
    repeat (first | refine AL.nil ?_ | refine AL.auto (hn := ?_) | refine AL.gskip rfl rfl rfl rfl rfl ?_ | refine AL.goneSkip rfl rfl rfl rfl rfl ?_ | refine AL.gauto (hn := ?_) | refine AL.oauto (hn := ?_))
    first | refine AL.one rfl rfl ?_ | refine AL.gone rfl rfl rfl rfl rfl ?_
    refine OpW.call ((syncTD h2 name hf).mono ?_) rfl
    rintro v w3 ⟨rfl, h3, c3⟩
    refine ⟨fun h => h.andThen c3, ?_⟩
    repeat (first | refine AL.nil ?_ | refine AL.auto (hn := ?_) | refine AL.gskip rfl rfl rfl rfl rfl ?_ | refine AL.goneSkip rfl rfl rfl rfl rfl ?_ | refine AL.gauto (hn := ?_) | refine AL.oauto (hn := ?_))
    first | refine AL.one rfl rfl ?_ | refine AL.gone rfl rfl rfl rfl rfl ?_
    refine OpW.call ((syncTM h3 name hg).mono ?_) rfl
    rintro v w4 ⟨rfl, h4, c4⟩
    refine ⟨fun h => h.andThen c4, ?_⟩
    repeat (first | refine AL.nil ?_ | refine AL.auto (hn := ?_) | refine AL.gskip rfl rfl rfl rfl rfl ?_ | refine AL.goneSkip rfl rfl rfl rfl rfl ?_ | refine AL.gauto (hn := ?_) | refine AL.oauto (hn := ?_))
    repeat (first | refine WL.nil ?_ | refine WL.auto (h := ?_) | refine WL.gskip rfl rfl rfl rfl ?_ | refine WL.gauto (h := ?_) | (refine CW.seq ?_; intro K hK) | refine CW.block ?_ | refine CW.region ?_ | refine CW.skip ?_ | refine CW.exit ?_ | refine CW.ret ?_ | (refine thn_ret (K := K) ?_; clear hK K) | refine thn_ret ?_ | refine blk_ret ?_ | (refine thn_exit (K := K) ?_; clear hK K) | refine thn_exit ?_ | refine blk_here ?_ | refine blk_past rfl ?_ | refine thn_norm ?_ | refine blk_norm ?_ | refine CW.condT rfl ?_ | refine CW.condF rfl ?_ | (refine hK _ _ ?_; clear hK K))
    refine out1 Try.results57 rfl ⟨_, rfl, fun e => by rw [e]; exact decide_eq_true rfl, ?_⟩ (Or.inr rfl)
    rw [e1, e1]
    exact fin h4 ((Grow.chg g2 c3).andThen c4)
  rw [decide_eq_false k2]
  repeat (first | refine WL.nil ?_ | refine WL.auto (h := ?_) | refine WL.gskip rfl rfl rfl rfl ?_ | refine WL.gauto (h := ?_) | (refine CW.seq ?_; intro K hK) | refine CW.block ?_ | refine CW.region ?_ | refine CW.skip ?_ | refine CW.exit ?_ | refine CW.ret ?_ | (refine thn_ret (K := K) ?_; clear hK K) | refine thn_ret ?_ | refine blk_ret ?_ | (refine thn_exit (K := K) ?_; clear hK K) | refine thn_exit ?_ | refine blk_here ?_ | refine blk_past rfl ?_ | refine thn_norm ?_ | refine blk_norm ?_ | refine CW.condT rfl ?_ | refine CW.condF rfl ?_ | (refine hK _ _ ?_; clear hK K))
  by_cases k3 : kind = 3
  · have e1 : ∀ d : PD, d.play ⟨kind, n, name, b, keep⟩ = (d.truncate name n).2 := fun d => by unfold PD.play; rw [if_neg k1, if_neg k2, if_pos k3]
    rw [decide_eq_true k3]
    repeat (first | refine WL.nil ?_ | refine WL.auto (h := ?_) | refine WL.gskip rfl rfl rfl rfl ?_ | refine WL.gauto (h := ?_) | (refine CW.seq ?_; intro K hK) | refine CW.block ?_ | refine CW.region ?_ | refine CW.skip ?_ | refine CW.exit ?_ | refine CW.ret ?_ | (refine thn_ret (K := K) ?_; clear hK K) | refine thn_ret ?_ | refine blk_ret ?_ | (refine thn_exit (K := K) ?_; clear hK K) | refine thn_exit ?_ | refine blk_here ?_ | refine blk_past rfl ?_ | refine thn_norm ?_ | refine blk_norm ?_ | refine CW.condT rfl ?_ | refine CW.condF rfl ?_ | (refine hK _ _ ?_; clear hK K))
    refine CW.held (fun k => ¬ X1 k) (.take 0 (.take 1 (.take 2 (.take 3 (.take 4 (.take 6 (.take 7 (.take 8 (.take 9 (.take 10 (.one 5 (.one 11 (.take 12 (.one 13 .nil)))))))))))))) rfl (by kernel_rfl) (by kernel_rfl) (fun w2 g2 => ?_)
    have h2 := h1.grow g2
    repeat (first | refine AL.nil ?_ | refine AL.auto (hn := ?_) | refine AL.gskip rfl rfl rfl rfl rfl ?_ | refine AL.goneSkip rfl rfl rfl rfl rfl ?_ | refine AL.gauto (hn := ?_) | refine AL.oauto (hn := ?_))
    first | refine AL.one rfl rfl ?_ | refine AL.gone rfl rfl rfl rfl rfl ?_
    refine OpW.call ((truncateTD h2 name n hf).mono ?_) rfl
    rintro v w3 ⟨rfl, h3, c3⟩
    refine ⟨fun h => h.andThen c3, ?_⟩
    repeat (first | refine AL.nil ?_ | refine AL.auto (hn := ?_) | refine AL.gskip rfl rfl rfl rfl rfl ?_ | refine AL.goneSkip rfl rfl rfl rfl rfl ?_ | refine AL.gauto (hn := ?_) | refine AL.oauto (hn := ?_))
    first | refine AL.one rfl rfl ?_ | refine AL.gone rfl rfl rfl rfl rfl ?_
    refine OpW.call ((truncateTM h3 name n hg).mono ?_) rfl
    rintro v w4 ⟨rfl, h4, c4⟩
    refine ⟨fun h => h.andThen c4, ?_⟩
    repeat (first | refine AL.nil ?_ | refine AL.auto (hn := ?_) | refine AL.gskip rfl rfl rfl rfl rfl ?_ | refine AL.goneSkip rfl rfl rfl rfl rfl ?_ | refine AL.gauto (hn := ?_) | refine AL.oauto (hn := ?_))
    repeat (first | refine WL.nil ?_ | refine WL.auto (h := ?_) | refine WL.gskip rfl rfl rfl rfl ?_ | refine WL.gauto (h := ?_) | (refine CW.seq ?_; intro K hK) | refine CW.block ?_ | refine CW.region ?_ | refine CW.skip ?_ | refine CW.exit ?_ | refine CW.ret ?_ | (refine thn_ret (K := K) ?_; clear hK K) | refine thn_ret ?_ | refine blk_ret ?_ | (refine thn_exit (K := K) ?_; clear hK K) | refine thn_exit ?_ | refine blk_here ?_ | refine blk_past rfl ?_ | refine thn_norm ?_ | refine blk_norm ?_ | refine CW.condT rfl ?_ | refine CW.condF rfl ?_ | (refine hK _ _ ?_; clear hK K))
    refine out1 Try.results57 rfl ⟨_, rfl, fun e => by rw [e]; exact decide_eq_true rfl, ?_⟩ (Or.inr rfl)
    rw [e1, e1]
    exact fin h4 ((Grow.chg g2 c3).andThen c4)
  rw [decide_eq_false k3]
  repeat (first | refine WL.nil ?_ | refine WL.auto (h := ?_) | refine WL.gskip rfl rfl rfl rfl ?_ | refine WL.gauto (h := ?_) | (refine CW.seq ?_; intro K hK) | refine CW.block ?_ | refine CW.region ?_ | refine CW.skip ?_ | refine CW.exit ?_ | refine CW.ret ?_ | (refine thn_ret (K := K) ?_; clear hK K) | refine thn_ret ?_ | refine blk_ret ?_ | (refine thn_exit (K := K) ?_; clear hK K) | refine thn_exit ?_ | refine blk_here ?_ | refine blk_past rfl ?_ | refine thn_norm ?_ | refine blk_norm ?_ | refine CW.condT rfl ?_ | refine CW.condF rfl ?_ | (refine hK _ _ ?_; clear hK K))
  by_cases k4 : kind = 4
  · have e1 : ∀ d : PD, d.play ⟨kind, n, name, b, keep⟩ = d := fun d => by unfold PD.play; rw [if_neg k1, if_neg k2, if_neg k3, if_neg (show ¬ kind = 5 from by omega)]
    rw [decide_eq_true k4]
    repeat (first | refine WL.nil ?_ | refine WL.auto (h := ?_) | refine WL.gskip rfl rfl rfl rfl ?_ | refine WL.gauto (h := ?_) | (refine CW.seq ?_; intro K hK) | refine CW.block ?_ | refine CW.region ?_ | refine CW.skip ?_ | refine CW.exit ?_ | refine CW.ret ?_ | (refine thn_ret (K := K) ?_; clear hK K) | refine thn_ret ?_ | refine blk_ret ?_ | (refine thn_exit (K := K) ?_; clear hK K) | refine thn_exit ?_ | refine blk_here ?_ | refine blk_past rfl ?_ | refine thn_norm ?_ | refine blk_norm ?_ | refine CW.condT rfl ?_ | refine CW.condF rfl ?_ | (refine hK _ _ ?_; clear hK K))
    first | refine WL.step rfl ?_ | refine WL.gstep rfl rfl rfl rfl ?_
    refine OpW.call ((readTD h1 name hf hM).mono ?_) rfl
    rintro v w3 ⟨g3, A3, c3, rfl, o3⟩
    have h3 := h1.grow g3
    replace hb := hb.grow g3
    repeat (first | refine WL.nil ?_ | refine WL.auto (h := ?_) | refine WL.gskip rfl rfl rfl rfl ?_ | refine WL.gauto (h := ?_) | (refine CW.seq ?_; intro K hK) | refine CW.block ?_ | refine CW.region ?_ | refine CW.skip ?_ | refine CW.exit ?_ | refine CW.ret ?_ | (refine thn_ret (K := K) ?_; clear hK K) | refine thn_ret ?_ | refine blk_ret ?_ | (refine thn_exit (K := K) ?_; clear hK K) | refine thn_exit ?_ | refine blk_here ?_ | refine blk_past rfl ?_ | refine thn_norm ?_ | refine blk_norm ?_ | refine CW.condT rfl ?_ | refine CW.condF rfl ?_ | (refine hK _ _ ?_; clear hK K))
    first | refine WL.step rfl ?_ | refine WL.gstep rfl rfl rfl rfl ?_
    refine OpW.call ((readTM h3 name hg hM).mono ?_) rfl
    rintro v w4 ⟨g4, A4, c4, rfl, o4⟩
    have h4 := h3.grow g4
    replace o3 := o3.grow g4
    by_cases he : (d.read name).2 = (m.read name).2
    · repeat (first | refine WL.nil ?_ | refine WL.auto (h := ?_) | refine WL.gskip rfl rfl rfl rfl ?_ | refine WL.gauto (h := ?_) | (refine CW.seq ?_; intro K hK) | refine CW.block ?_ | refine CW.region ?_ | refine CW.skip ?_ | refine CW.exit ?_ | refine CW.ret ?_ | (refine thn_ret (K := K) ?_; clear hK K) | refine thn_ret ?_ | refine blk_ret ?_ | (refine thn_exit (K := K) ?_; clear hK K) | refine thn_exit ?_ | refine blk_here ?_ | refine blk_past rfl ?_ | refine thn_norm ?_ | refine blk_norm ?_ | refine CW.condT rfl ?_ | refine CW.condF rfl ?_ | (refine hK _ _ ?_; clear hK K))
      rw [decide_eq_true he]
      repeat (first | refine WL.nil ?_ | refine WL.auto (h := ?_) | refine WL.gskip rfl rfl rfl rfl ?_ | refine WL.gauto (h := ?_) | (refine CW.seq ?_; intro K hK) | refine CW.block ?_ | refine CW.region ?_ | refine CW.skip ?_ | refine CW.exit ?_ | refine CW.ret ?_ | (refine thn_ret (K := K) ?_; clear hK K) | refine thn_ret ?_ | refine blk_ret ?_ | (refine thn_exit (K := K) ?_; clear hK K) | refine thn_exit ?_ | refine blk_here ?_ | refine blk_past rfl ?_ | refine thn_norm ?_ | refine blk_norm ?_ | refine CW.condT rfl ?_ | refine CW.condF rfl ?_ | (refine hK _ _ ?_; clear hK K))
      first | refine WL.step rfl ?_ | refine WL.gstep rfl rfl rfl rfl ?_
      refine OpW.toStr rfl o3.sl rfl ?_
      repeat (first | refine WL.nil ?_ | refine WL.auto (h := ?_) | refine WL.gskip rfl rfl rfl rfl ?_ | refine WL.gauto (h := ?_) | (refine CW.seq ?_; intro K hK) | refine CW.block ?_ | refine CW.region ?_ | refine CW.skip ?_ | refine CW.exit ?_ | refine CW.ret ?_ | (refine thn_ret (K := K) ?_; clear hK K) | refine thn_ret ?_ | refine blk_ret ?_ | (refine thn_exit (K := K) ?_; clear hK K) | refine thn_exit ?_ | refine blk_here ?_ | refine blk_past rfl ?_ | refine thn_norm ?_ | refine blk_norm ?_ | refine CW.condT rfl ?_ | refine CW.condF rfl ?_ | (refine hK _ _ ?_; clear hK K))
      first | refine WL.step rfl ?_ | refine WL.gstep rfl rfl rfl rfl ?_
      refine OpW.toStr rfl o4.sl rfl ?_
      repeat (first | refine WL.nil ?_ | refine WL.auto (h := ?_) | refine WL.gskip rfl rfl rfl rfl ?_ | refine WL.gauto (h := ?_) | (refine CW.seq ?_; intro K hK) | refine CW.block ?_ | refine CW.region ?_ | refine CW.skip ?_ | refine CW.exit ?_ | refine CW.ret ?_ | (refine thn_ret (K := K) ?_; clear hK K) | refine thn_ret ?_ | refine blk_ret ?_ | (refine thn_exit (K := K) ?_; clear hK K) | refine thn_exit ?_ | refine blk_here ?_ | refine blk_past rfl ?_ | refine thn_norm ?_ | refine blk_norm ?_ | refine CW.condT rfl ?_ | refine CW.condF rfl ?_ | (refine hK _ _ ?_; clear hK K))
      refine out1 Try.results57 rfl ⟨_, rfl, fun e => by rw [e]; exact decide_eq_true rfl, ?_⟩ (Or.inr rfl)
      rw [e1, e1]
      exact fin h4 (Chg.to (g3.then g4))
    · repeat (first | refine WL.nil ?_ | refine WL.auto (h := ?_) | refine WL.gskip rfl rfl rfl rfl ?_ | refine WL.gauto (h := ?_) | (refine CW.seq ?_; intro K hK) | refine CW.block ?_ | refine CW.region ?_ | refine CW.skip ?_ | refine CW.exit ?_ | refine CW.ret ?_ | (refine thn_ret (K := K) ?_; clear hK K) | refine thn_ret ?_ | refine blk_ret ?_ | (refine thn_exit (K := K) ?_; clear hK K) | refine thn_exit ?_ | refine blk_here ?_ | refine blk_past rfl ?_ | refine thn_norm ?_ | refine blk_norm ?_ | refine CW.condT rfl ?_ | refine CW.condF rfl ?_ | (refine hK _ _ ?_; clear hK K))
      rw [decide_eq_false he]
      repeat (first | refine WL.nil ?_ | refine WL.auto (h := ?_) | refine WL.gskip rfl rfl rfl rfl ?_ | refine WL.gauto (h := ?_) | (refine CW.seq ?_; intro K hK) | refine CW.block ?_ | refine CW.region ?_ | refine CW.skip ?_ | refine CW.exit ?_ | refine CW.ret ?_ | (refine thn_ret (K := K) ?_; clear hK K) | refine thn_ret ?_ | refine blk_ret ?_ | (refine thn_exit (K := K) ?_; clear hK K) | refine thn_exit ?_ | refine blk_here ?_ | refine blk_past rfl ?_ | refine thn_norm ?_ | refine blk_norm ?_ | refine CW.condT rfl ?_ | refine CW.condF rfl ?_ | (refine hK _ _ ?_; clear hK K))
      refine out1 (v := .bool false) Try.results57 rfl ⟨_, rfl, fun e => absurd (by rw [e]) he, ?_⟩ (Or.inr rfl)
      rw [e1, e1]
      exact fin h4 (Chg.to (g3.then g4))
  rw [decide_eq_false k4]
  repeat (first | refine WL.nil ?_ | refine WL.auto (h := ?_) | refine WL.gskip rfl rfl rfl rfl ?_ | refine WL.gauto (h := ?_) | (refine CW.seq ?_; intro K hK) | refine CW.block ?_ | refine CW.region ?_ | refine CW.skip ?_ | refine CW.exit ?_ | refine CW.ret ?_ | (refine thn_ret (K := K) ?_; clear hK K) | refine thn_ret ?_ | refine blk_ret ?_ | (refine thn_exit (K := K) ?_; clear hK K) | refine thn_exit ?_ | refine blk_here ?_ | refine blk_past rfl ?_ | refine thn_norm ?_ | refine blk_norm ?_ | refine CW.condT rfl ?_ | refine CW.condF rfl ?_ | (refine hK _ _ ?_; clear hK K))
  by_cases k5 : kind = 5
  · have e1 : ∀ d : PD, d.play ⟨kind, n, name, b, keep⟩ = d.arm n := fun d => by unfold PD.play; rw [if_neg k1, if_neg k2, if_neg k3, if_pos k5]
    rw [decide_eq_true k5]
    repeat (first | refine WL.nil ?_ | refine WL.auto (h := ?_) | refine WL.gskip rfl rfl rfl rfl ?_ | refine WL.gauto (h := ?_) | (refine CW.seq ?_; intro K hK) | refine CW.block ?_ | refine CW.region ?_ | refine CW.skip ?_ | refine CW.exit ?_ | refine CW.ret ?_ | (refine thn_ret (K := K) ?_; clear hK K) | refine thn_ret ?_ | refine blk_ret ?_ | (refine thn_exit (K := K) ?_; clear hK K) | refine thn_exit ?_ | refine blk_here ?_ | refine blk_past rfl ?_ | refine thn_norm ?_ | refine blk_norm ?_ | refine CW.condT rfl ?_ | refine CW.condF rfl ?_ | (refine hK _ _ ?_; clear hK K))
    first | refine WL.step rfl ?_ | refine WL.gstep rfl rfl rfl rfl ?_
    refine OpW.call ((armTD h1 n).mono ?_) rfl
    rintro v w3 ⟨h3, c3⟩
    replace hb := hb.keep c3 hbo
    repeat (first | refine WL.nil ?_ | refine WL.auto (h := ?_) | refine WL.gskip rfl rfl rfl rfl ?_ | refine WL.gauto (h := ?_) | (refine CW.seq ?_; intro K hK) | refine CW.block ?_ | refine CW.region ?_ | refine CW.skip ?_ | refine CW.exit ?_ | refine CW.ret ?_ | (refine thn_ret (K := K) ?_; clear hK K) | refine thn_ret ?_ | refine blk_ret ?_ | (refine thn_exit (K := K) ?_; clear hK K) | refine thn_exit ?_ | refine blk_here ?_ | refine blk_past rfl ?_ | refine thn_norm ?_ | refine blk_norm ?_ | refine CW.condT rfl ?_ | refine CW.condF rfl ?_ | (refine hK _ _ ?_; clear hK K))
    first | refine WL.step rfl ?_ | refine WL.gstep rfl rfl rfl rfl ?_
    refine OpW.call ((armTM h3 n).mono ?_) rfl
    rintro v w4 ⟨h4, c4⟩
    repeat (first | refine WL.nil ?_ | refine WL.auto (h := ?_) | refine WL.gskip rfl rfl rfl rfl ?_ | refine WL.gauto (h := ?_) | (refine CW.seq ?_; intro K hK) | refine CW.block ?_ | refine CW.region ?_ | refine CW.skip ?_ | refine CW.exit ?_ | refine CW.ret ?_ | (refine thn_ret (K := K) ?_; clear hK K) | refine thn_ret ?_ | refine blk_ret ?_ | (refine thn_exit (K := K) ?_; clear hK K) | refine thn_exit ?_ | refine blk_here ?_ | refine blk_past rfl ?_ | refine thn_norm ?_ | refine blk_norm ?_ | refine CW.condT rfl ?_ | refine CW.condF rfl ?_ | (refine hK _ _ ?_; clear hK K))
    refine out1 (v := .bool true) Try.results57 rfl ⟨_, rfl, fun e => rfl, ?_⟩ (Or.inr rfl)
    rw [e1, e1]
    exact fin h4 (c3.andThen c4)
  rw [decide_eq_false k5]
  repeat (first | refine WL.nil ?_ | refine WL.auto (h := ?_) | refine WL.gskip rfl rfl rfl rfl ?_ | refine WL.gauto (h := ?_) | (refine CW.seq ?_; intro K hK) | refine CW.block ?_ | refine CW.region ?_ | refine CW.skip ?_ | refine CW.exit ?_ | refine CW.ret ?_ | (refine thn_ret (K := K) ?_; clear hK K) | refine thn_ret ?_ | refine blk_ret ?_ | (refine thn_exit (K := K) ?_; clear hK K) | refine thn_exit ?_ | refine blk_here ?_ | refine blk_past rfl ?_ | refine thn_norm ?_ | refine blk_norm ?_ | refine CW.condT rfl ?_ | refine CW.condF rfl ?_ | (refine hK _ _ ?_; clear hK K))
  have e1 : ∀ d : PD, d.play ⟨kind, n, name, b, keep⟩ = d := fun d => by unfold PD.play; rw [if_neg k1, if_neg k2, if_neg k3, if_neg k5]
  by_cases k6 : kind = 6
  · rw [decide_eq_true k6]
    obtain ⟨RA, rcap, hm, hmX⟩ := blkM h1
    repeat (first | refine WL.nil ?_ | refine WL.auto (h := ?_) | refine WL.gskip rfl rfl rfl rfl ?_ | refine WL.gauto (h := ?_) | (refine CW.seq ?_; intro K hK) | refine CW.block ?_ | refine CW.region ?_ | refine CW.skip ?_ | refine CW.exit ?_ | refine CW.ret ?_ | (refine thn_ret (K := K) ?_; clear hK K) | refine thn_ret ?_ | refine blk_ret ?_ | (refine thn_exit (K := K) ?_; clear hK K) | refine thn_exit ?_ | refine blk_here ?_ | refine blk_past rfl ?_ | refine thn_norm ?_ | refine blk_norm ?_ | refine CW.condT rfl ?_ | refine CW.condF rfl ?_ | (refine hK _ _ ?_; clear hK K))
    refine CW.held (fun _ => False) (.take 0 (.take 2 (.take 3 (.take 4 (.take 5 (.one 1 (.take 6 (.one 7 .nil)))))))) rfl (by kernel_rfl) (by kernel_rfl) (fun w2 g2 => ?_)
    have h2 := h1.grow g2
    repeat (first | refine AL.nil ?_ | refine AL.auto (hn := ?_) | refine AL.gskip rfl rfl rfl rfl rfl ?_ | refine AL.goneSkip rfl rfl rfl rfl rfl ?_ | refine AL.gauto (hn := ?_) | refine AL.oauto (hn := ?_))
    first | refine AL.one rfl rfl ?_ | refine AL.gone rfl rfl rfl rfl rfl ?_
    refine OpW.call ((downTD h2).mono ?_) rfl
    rintro v w3 ⟨rfl, g3⟩
    have h3 := h2.grow g3
    refine ⟨fun h => h.andThen g3, ?_⟩
    repeat (first | refine AL.nil ?_ | refine AL.auto (hn := ?_) | refine AL.gskip rfl rfl rfl rfl rfl ?_ | refine AL.goneSkip rfl rfl rfl rfl rfl ?_ | refine AL.gauto (hn := ?_) | refine AL.oauto (hn := ?_))
    repeat (first | refine WL.nil ?_ | refine WL.auto (h := ?_) | refine WL.gskip rfl rfl rfl rfl ?_ | refine WL.gauto (h := ?_) | (refine CW.seq ?_; intro K hK) | refine CW.block ?_ | refine CW.region ?_ | refine CW.skip ?_ | refine CW.exit ?_ | refine CW.ret ?_ | (refine thn_ret (K := K) ?_; clear hK K) | refine thn_ret ?_ | refine blk_ret ?_ | (refine thn_exit (K := K) ?_; clear hK K) | refine thn_exit ?_ | refine blk_here ?_ | refine blk_past rfl ?_ | refine thn_norm ?_ | refine blk_norm ?_ | refine CW.condT rfl ?_ | refine CW.condF rfl ?_ | (refine hK _ _ ?_; clear hK K))
    refine out1 Try.results57 rfl ⟨_, rfl, fun e => by rw [e]; exact beq_self_eq_true _, ?_⟩ (Or.inr rfl)
    rw [e1, e1]
    exact fin h3 (Chg.to (g2.then g3))
  rw [decide_eq_false k6]
  repeat (first | refine WL.nil ?_ | refine WL.auto (h := ?_) | refine WL.gskip rfl rfl rfl rfl ?_ | refine WL.gauto (h := ?_) | (refine CW.seq ?_; intro K hK) | refine CW.block ?_ | refine CW.region ?_ | refine CW.skip ?_ | refine CW.exit ?_ | refine CW.ret ?_ | (refine thn_ret (K := K) ?_; clear hK K) | refine thn_ret ?_ | refine blk_ret ?_ | (refine thn_exit (K := K) ?_; clear hK K) | refine thn_exit ?_ | refine blk_here ?_ | refine blk_past rfl ?_ | refine thn_norm ?_ | refine blk_norm ?_ | refine CW.condT rfl ?_ | refine CW.condF rfl ?_ | (refine hK _ _ ?_; clear hK K))
  by_cases k7 : kind = 7
  · rw [decide_eq_true k7]
    repeat (first | refine WL.nil ?_ | refine WL.auto (h := ?_) | refine WL.gskip rfl rfl rfl rfl ?_ | refine WL.gauto (h := ?_) | (refine CW.seq ?_; intro K hK) | refine CW.block ?_ | refine CW.region ?_ | refine CW.skip ?_ | refine CW.exit ?_ | refine CW.ret ?_ | (refine thn_ret (K := K) ?_; clear hK K) | refine thn_ret ?_ | refine blk_ret ?_ | (refine thn_exit (K := K) ?_; clear hK K) | refine thn_exit ?_ | refine blk_here ?_ | refine blk_past rfl ?_ | refine thn_norm ?_ | refine blk_norm ?_ | refine CW.condT rfl ?_ | refine CW.condF rfl ?_ | (refine hK _ _ ?_; clear hK K))
    first | refine WL.step rfl ?_ | refine WL.gstep rfl rfl rfl rfl ?_
    refine OpW.call ((waitingTD h1 hf hM).mono ?_) rfl
    rintro v w3 ⟨g3, rfl⟩
    have h3 := h1.grow g3
    repeat (first | refine WL.nil ?_ | refine WL.auto (h := ?_) | refine WL.gskip rfl rfl rfl rfl ?_ | refine WL.gauto (h := ?_) | (refine CW.seq ?_; intro K hK) | refine CW.block ?_ | refine CW.region ?_ | refine CW.skip ?_ | refine CW.exit ?_ | refine CW.ret ?_ | (refine thn_ret (K := K) ?_; clear hK K) | refine thn_ret ?_ | refine blk_ret ?_ | (refine thn_exit (K := K) ?_; clear hK K) | refine thn_exit ?_ | refine blk_here ?_ | refine blk_past rfl ?_ | refine thn_norm ?_ | refine blk_norm ?_ | refine CW.condT rfl ?_ | refine CW.condF rfl ?_ | (refine hK _ _ ?_; clear hK K))
    first | refine WL.step rfl ?_ | refine WL.gstep rfl rfl rfl rfl ?_
    refine OpW.call ((waitingTM h3 hg hM).mono ?_) rfl
    rintro v w4 ⟨g4, rfl⟩
    have h4 := h3.grow g4
    repeat (first | refine WL.nil ?_ | refine WL.auto (h := ?_) | refine WL.gskip rfl rfl rfl rfl ?_ | refine WL.gauto (h := ?_) | (refine CW.seq ?_; intro K hK) | refine CW.block ?_ | refine CW.region ?_ | refine CW.skip ?_ | refine CW.exit ?_ | refine CW.ret ?_ | (refine thn_ret (K := K) ?_; clear hK K) | refine thn_ret ?_ | refine blk_ret ?_ | (refine thn_exit (K := K) ?_; clear hK K) | refine thn_exit ?_ | refine blk_here ?_ | refine blk_past rfl ?_ | refine thn_norm ?_ | refine blk_norm ?_ | refine CW.condT rfl ?_ | refine CW.condF rfl ?_ | (refine hK _ _ ?_; clear hK K))
    refine out1 Try.results57 rfl ⟨_, rfl, fun e => by rw [e]; exact decide_eq_true rfl, ?_⟩ (Or.inr rfl)
    rw [e1, e1]
    exact fin h4 (Chg.to (g3.then g4))
  rw [decide_eq_false k7]
  repeat (first | refine WL.nil ?_ | refine WL.auto (h := ?_) | refine WL.gskip rfl rfl rfl rfl ?_ | refine WL.gauto (h := ?_) | (refine CW.seq ?_; intro K hK) | refine CW.block ?_ | refine CW.region ?_ | refine CW.skip ?_ | refine CW.exit ?_ | refine CW.ret ?_ | (refine thn_ret (K := K) ?_; clear hK K) | refine thn_ret ?_ | refine blk_ret ?_ | (refine thn_exit (K := K) ?_; clear hK K) | refine thn_exit ?_ | refine blk_here ?_ | refine blk_past rfl ?_ | refine thn_norm ?_ | refine blk_norm ?_ | refine CW.condT rfl ?_ | refine CW.condF rfl ?_ | (refine hK _ _ ?_; clear hK K))
  by_cases k8 : kind = 8
  · rw [decide_eq_true k8]
    repeat (first | refine WL.nil ?_ | refine WL.auto (h := ?_) | refine WL.gskip rfl rfl rfl rfl ?_ | refine WL.gauto (h := ?_) | (refine CW.seq ?_; intro K hK) | refine CW.block ?_ | refine CW.region ?_ | refine CW.skip ?_ | refine CW.exit ?_ | refine CW.ret ?_ | (refine thn_ret (K := K) ?_; clear hK K) | refine thn_ret ?_ | refine blk_ret ?_ | (refine thn_exit (K := K) ?_; clear hK K) | refine thn_exit ?_ | refine blk_here ?_ | refine blk_past rfl ?_ | refine thn_norm ?_ | refine blk_norm ?_ | refine CW.condT rfl ?_ | refine CW.condF rfl ?_ | (refine hK _ _ ?_; clear hK K))
    refine CW.held (fun _ => False) (.take 0 (.take 1 (.take 2 (.take 4 (.take 5 (.take 6 (.one 3 (.one 7 (.one 8 (.one 9 .nil)))))))))) rfl (by kernel_rfl) (by kernel_rfl) (fun w2 g2 => ?_)
    have h2 := h1.grow g2
    repeat (first | refine AL.nil ?_ | refine AL.auto (hn := ?_) | refine AL.gskip rfl rfl rfl rfl rfl ?_ | refine AL.goneSkip rfl rfl rfl rfl rfl ?_ | refine AL.gauto (hn := ?_) | refine AL.oauto (hn := ?_))
    first | refine AL.one rfl rfl ?_ | refine AL.gone rfl rfl rfl rfl rfl ?_
    refine OpW.call ((crashTD h2 KA kcap keep hf hM (hk1.grow g2) (by omega) hkc).mono ?_) rfl
    rintro v w3 ⟨g3, OA, oc, rfl, o3⟩
    have h3 := h2.grow g3
    refine ⟨fun h => h.andThen g3, ?_⟩
    repeat (first | refine AL.nil ?_ | refine AL.auto (hn := ?_) | refine AL.gskip rfl rfl rfl rfl rfl ?_ | refine AL.goneSkip rfl rfl rfl rfl rfl ?_ | refine AL.gauto (hn := ?_) | refine AL.oauto (hn := ?_))
    first | refine AL.one rfl rfl ?_ | refine AL.gone rfl rfl rfl rfl rfl ?_
    refine OpW.call ((crashTM h3 KA kcap keep hg hM (hk1.grow (g2.then g3)) (by omega)).mono ?_) rfl
    rintro v w4 ⟨g4, OA2, oc2, rfl, o4⟩
    have h4 := h3.grow g4
    refine ⟨fun h => h.andThen g4, ?_⟩
    repeat (first | refine AL.nil ?_ | refine AL.auto (hn := ?_) | refine AL.gskip rfl rfl rfl rfl rfl ?_ | refine AL.goneSkip rfl rfl rfl rfl rfl ?_ | refine AL.gauto (hn := ?_) | refine AL.oauto (hn := ?_))
    first | refine AL.one rfl rfl ?_ | refine AL.gone rfl rfl rfl rfl rfl ?_
    have hld := hf.good.len
    have hlm := hg.good.len
    refine OpW.call ((same37 _ _ _ _ _ _ _ _ _ (o3.grow g4) o4 (by rw [crashAll_length]; omega) (by rw [crashAll_length]; omega)).mono ?_) rfl
    rintro v w5 ⟨rfl, g5⟩
    have h5 := h4.grow g5
    refine ⟨fun h => h.andThen g5, ?_⟩
    repeat (first | refine AL.nil ?_ | refine AL.auto (hn := ?_) | refine AL.gskip rfl rfl rfl rfl rfl ?_ | refine AL.goneSkip rfl rfl rfl rfl rfl ?_ | refine AL.gauto (hn := ?_) | refine AL.oauto (hn := ?_))
    repeat (first | refine WL.nil ?_ | refine WL.auto (h := ?_) | refine WL.gskip rfl rfl rfl rfl ?_ | refine WL.gauto (h := ?_) | (refine CW.seq ?_; intro K hK) | refine CW.block ?_ | refine CW.region ?_ | refine CW.skip ?_ | refine CW.exit ?_ | refine CW.ret ?_ | (refine thn_ret (K := K) ?_; clear hK K) | refine thn_ret ?_ | refine blk_ret ?_ | (refine thn_exit (K := K) ?_; clear hK K) | refine thn_exit ?_ | refine blk_here ?_ | refine blk_past rfl ?_ | refine thn_norm ?_ | refine blk_norm ?_ | refine CW.condT rfl ?_ | refine CW.condF rfl ?_ | (refine hK _ _ ?_; clear hK K))
    refine out1 Try.results57 rfl ⟨_, rfl, fun e => by rw [e]; exact decide_eq_true rfl, ?_⟩ (Or.inr rfl)
    rw [e1, e1]
    exact fin h5 (Chg.to (g2.then (g3.then (g4.then g5))))
  rw [decide_eq_false k8]
  repeat (first | refine WL.nil ?_ | refine WL.auto (h := ?_) | refine WL.gskip rfl rfl rfl rfl ?_ | refine WL.gauto (h := ?_) | (refine CW.seq ?_; intro K hK) | refine CW.block ?_ | refine CW.region ?_ | refine CW.skip ?_ | refine CW.exit ?_ | refine CW.ret ?_ | (refine thn_ret (K := K) ?_; clear hK K) | refine thn_ret ?_ | refine blk_ret ?_ | (refine thn_exit (K := K) ?_; clear hK K) | refine thn_exit ?_ | refine blk_here ?_ | refine blk_past rfl ?_ | refine thn_norm ?_ | refine blk_norm ?_ | refine CW.condT rfl ?_ | refine CW.condF rfl ?_ | (refine hK _ _ ?_; clear hK K))
  refine out1 (v := .bool true) Try.results57 rfl ⟨_, rfl, fun e => rfl, ?_⟩ (Or.inr rfl)
  rw [e1, e1]
  exact fin h1 (Chg.refl _ _)
end B
end Go.Proofs.Ytlofcomnhecgfaa
/- What came in, as files; sums. No conditions. -/
namespace Go.Proofs.Ytlofcomnhecgfaa
namespace B
set_option linter.unusedVariables false

theorem files_in {W : World} {v : Value} {xs : List (List UInt8 × List UInt8)} (h : InStructs W v 2 (IsFile W) xs) : ∃ A cap, v = .slice A xs.length cap ∧ FilesIn W A xs (fun b => b < W.heap.size) := by
  obtain ⟨A, cap, cs, rfl, h1, h2, h3, h4, h5⟩ := h
  refine ⟨A, cap, rfl, cs, h4, fun hne a ha => h4.lt hne ha, h3, fun i x hx => ?_⟩
  obtain ⟨B, c, e, k1, k2, k3⟩ := h5 i x hx
  exact ⟨B, c, e, k1, fun hne a ha => k1.lt hne ha, k2⟩
theorem le_sum' {α : Type} (f : α → Nat) {l : List α} {x : α} (h : x ∈ l) : f x ≤ (l.map f).sum := by
  induction l with
  | nil => cases h
  | cons y l ih =>
    simp only [List.map_cons, List.sum_cons]
    rcases List.mem_cons.1 h with rfl | h
    · omega
    · have := ih h; omega
theorem file_sizes {xs : List (List UInt8 × List UInt8)} {n : Nat} (h : (xs.map fun x => x.1.length + x.2.length + 1).sum ≤ n) : ∀ x ∈ xs, x.1.length ≤ n ∧ x.2.length ≤ n := by
  intro x hx
  have := le_sum' (fun x : List UInt8 × List UInt8 => x.1.length + x.2.length + 1) hx
  omega
theorem load_fit {xs : List (List UInt8 × List UInt8)} {l : List PF} {n : Nat} (h : loadGo [] xs = some l) (hs : ∀ x ∈ xs, x.1.length ≤ n ∧ x.2.length ≤ n) : l = xs.map toPF ∧ Fit ⟨l, false, 0⟩ n := by
  obtain ⟨h1, h2⟩ := loadGo_some xs [] l Good.nil h
  rw [List.nil_append] at h1
  refine ⟨h1, h2, Nat.zero_le _, fun f hf => ?_⟩
  simp only [h1] at hf
  obtain ⟨x, hx, rfl⟩ := List.mem_map.1 hf
  exact (hs x hx).2
theorem base_grow {X : Nat → Prop} {W w w' : World} (hX : ∀ k, k < W.heap.size → X k) (g : Grow W w) (c : Chg (fun k => ¬ X k) w w') : Grow W w' := g.chgNew c fun i hi hn => hn (hX i hi)
end B
end Go.Proofs.Ytlofcomnhecgfaa
