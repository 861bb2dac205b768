/- Append of a disk. Sizes are bounded. -/
import Derived.Test.YtlofcomnhecgfaaDiskB
import Derived.Test.YtlofcomnhecgfaaMem6
namespace Go.Proofs.Ytlofcomnhecgfaa
namespace B
attribute [local irreducible] OpW WL CW Ret Sl Blk thn blk outOf
set_option linter.unusedVariables false
set_option linter.unusedSimpArgs false
set_option maxRecDepth 4000

theorem FileRep.mono {w : World} {fb : Nat} {f : PF} {Z Z' : Nat → Prop} (h : FileRep w fb f Z) (hz : ∀ b, b < w.heap.size → Z b → Z' b) : FileRep w fb f Z' := by
  obtain ⟨DA, cap, g1, g2⟩ := h
  exact ⟨DA, cap, g1, g2.zone fun a ha => hz _ (g2.in_ ha).2 (g2.in_ ha).1⟩
theorem FileRep.lt {w : World} {fb : Nat} {f : PF} {Z : Nat → Prop} (h : FileRep w fb f Z) : fb < w.heap.size := by
  obtain ⟨DA, cap, g1, g2⟩ := h
  exact g1.lt
/-- New blocks may be coloured anew. -/
theorem DiskAt.retag {tag tag' : Nat → Tag} {w : World} {db : Nat} {FA : Option Addr} {fcap : Nat} {fs : List Nat} {d : PD} (h : DiskAt tag w db FA fcap fs d) (ht : ∀ k, k < w.heap.size → tag' k = tag k) : DiskAt tag' w db FA fcap fs d :=
  ⟨by rw [ht _ h.blk.lt]; exact h.tg, h.blk, h.own.zone fun a ha => by
    show tag' a.block = .arr
    rw [ht _ (h.own.in_ ha).2]; exact (h.own.in_ ha).1, h.len, fun i f fb h1 h2 => by
    obtain ⟨h3, h4⟩ := h.file i f fb h1 h2
    exact ⟨by rw [ht _ h4.lt]; exact h3, h4.mono fun b hb hz => by rw [ht _ hb]; exact hz⟩⟩
/-- One file's cells and bytes turned. -/
theorem DiskAt.setFile {S : Nat → Prop} {tag : Nat → Tag} {w w' : World} {db : Nat} {FA : Option Addr} {fcap : Nat} {fs : List Nat} {d : PD} {i fb : Nat} {f f' : PF} (h : DiskAt tag w db FA fcap fs d) (hi : d.files[i]? = some f) (hfb : fs[i]? = some fb) (hc : Chg S w w') (hS : ∀ b, S b → tag b = .file i ∨ tag b = .data i ∨ (tag b).impl = false)
    (hf : FileRep w' fb f' (fun b => tag b = .data i)) : DiskAt tag w' db FA fcap fs { d with files := d.files.set i f' } := by
  have hn : ∀ b t, tag b = t → t ≠ .file i → t ≠ .data i → t.impl = true → ¬ S b := fun b t e h1 h2 h3 hs => by
    subst e
    rcases hS b hs with h | h | h
    · exact h1 h
    · exact h2 h
    · rw [h] at h3; cases h3
  refine ⟨h.tg, ?_, ?_, ?_, fun j g gb h1 h2 => ?_⟩
  · have := h.blk.keep hc (hn db _ h.tg (by simp) (by simp) rfl)
    simpa using this
  · have := h.own.keep hc fun b hb => hn b _ hb (by simp) (by simp) rfl
    simpa using this
  · simpa using h.len
  · by_cases hj : j = i
    · subst hj
      rw [hfb] at h2
      cases h2
      rw [List.getElem?_set_self (List.getElem?_eq_some_iff.1 hi).1] at h1
      cases h1
      exact ⟨(h.file j f fb hi hfb).1, hf⟩
    · rw [List.getElem?_set_ne (fun e => hj e.symm)] at h1
      obtain ⟨h3, h4⟩ := h.file j g gb h1 h2
      refine ⟨h3, h4.keep hc (hn gb _ h3 (by simp [hj]) (by simp) rfl) fun b hb => hn b _ hb (by simp) (by simp [hj]) rfl⟩

/-- Append, plain. -/
def PD.append (d : PD) (s b : List UInt8) : Int × PD :=
  let r := d.begin
  if r.1 then
    match r.2.2.ix s with
    | none => if rightName s = false ∨ r.2.2.files.length = 16 then (max r.2.1 50, r.2.2) else (r.2.1, { r.2.2 with files := r.2.2.files ++ [⟨s, b, 0⟩] })
    | some i => (r.2.1, { r.2.2 with files := r.2.2.files.modify i fun f => { f with data := f.data ++ b } })
  else (r.2.1, r.2.2)
theorem modify_set {l : List PF} {i : Nat} {f : PF} (h : l[i]? = some f) (g : PF → PF) : l.modify i g = l.set i (g f) := by
  apply List.ext_getElem?
  intro j
  rw [List.getElem?_modify, List.getElem?_set]
  by_cases hj : i = j
  · subst hj
    have h2 := (List.getElem?_eq_some_iff.1 h).2
    simp [h, (List.getElem?_eq_some_iff.1 h).1, h2]
  · simp [hj]
/-- What has happened to a disk: its new state, its new colours. -/
def Went (tag : Nat → Tag) (w w' : World) (db : Nat) (d' : PD) : Prop :=
  ∃ tag', (∀ k, k < w.heap.size → tag' k = tag k) ∧ DiskRep tag' w' db d' ∧ Chg (fun b => (tag b).impl = true) w w'

theorem append33 (tag : Nat → Tag) (db : Nat) (d : PD) (s b : List UInt8) (B : Option Addr) (bcap : Nat) (w : World) (h : DiskRep tag w db d) (ha : d.armed ≤ 9223372036854775807) (hn : d.files.length ≤ 16) (hs : s.length ≤ 1099511627776)
    (hb : Sl w B (bvs b)) (hB : b ≠ [] → ∀ a, B = some a → (tag a.block).impl = false) (hbl : b.length ≤ 1099511627776) (hd : ∀ f ∈ d.files, f.data.length ≤ 1099511627776) :
    Ret Try.prog 33 #[.pointer (some ⟨db, 0, none⟩), .string (bstr s), .slice B b.length bcap] w fun v w' => v = .int .i64 (d.append s b).1 ∧ Went tag w w' db (d.append s b).2 := by
  obtain ⟨FA, fcap, fs, h⟩ := h
  refine Ret.enter (fn := Try.f33) (N := 63) Try.func33 rfl Try.ntmps33 rfl ?_
  repeat (first | refine WL.nil ?_ | refine WL.auto (h := ?_) | refine WL.gskip rfl rfl rfl rfl ?_ | refine WL.gauto (h := ?_) | (refine CW.seq ?_; intro K hK) | refine CW.block ?_ | refine CW.region ?_ | refine CW.skip ?_ | refine CW.exit ?_ | refine CW.ret ?_ | (refine thn_ret (K := K) ?_; clear hK K) | refine thn_ret ?_ | refine blk_ret ?_ | (refine thn_exit (K := K) ?_; clear hK K) | refine thn_exit ?_ | refine blk_here ?_ | refine blk_past rfl ?_ | refine thn_norm ?_ | refine blk_norm ?_ | refine CW.condT rfl ?_ | refine CW.condF rfl ?_ | (refine hK _ _ ?_; clear hK K))
  first | refine WL.step rfl ?_ | refine WL.gstep rfl rfl rfl rfl ?_
  refine OpW.call ((begin70 tag db FA fcap fs d w h ha).mono ?_) rfl
  rintro v w1 ⟨rfl, h1, c1⟩
  have ti : ∀ {a c : World}, Chg (· = db) a c → Chg (fun b => (tag b).impl = true) a c := fun hc => hc.mono fun k _ e => by subst e; rw [h.tg]; rfl
  have hf1 : d.begin.2.2.files = d.files := by unfold PD.begin; split <;> (try split) <;> (try split) <;> rfl
  generalize hbg : d.begin = r at *
  obtain ⟨dn, e, d1⟩ := r
  simp only at h1 hf1
  repeat (first | refine WL.nil ?_ | refine WL.auto (h := ?_) | refine WL.gskip rfl rfl rfl rfl ?_ | refine WL.gauto (h := ?_) | (refine CW.seq ?_; intro K hK) | refine CW.block ?_ | refine CW.region ?_ | refine CW.skip ?_ | refine CW.exit ?_ | refine CW.ret ?_ | (refine thn_ret (K := K) ?_; clear hK K) | refine thn_ret ?_ | refine blk_ret ?_ | (refine thn_exit (K := K) ?_; clear hK K) | refine thn_exit ?_ | refine blk_here ?_ | refine blk_past rfl ?_ | refine thn_norm ?_ | refine blk_norm ?_ | refine CW.condT rfl ?_ | refine CW.condF rfl ?_ | (refine hK _ _ ?_; clear hK K))
  cases dn with
  | false =>
    have e1 : d.append s b = (e, d1) := by unfold PD.append; rw [hbg]; rfl
    repeat (first | refine WL.nil ?_ | refine WL.auto (h := ?_) | refine WL.gskip rfl rfl rfl rfl ?_ | refine WL.gauto (h := ?_) | (refine CW.seq ?_; intro K hK) | refine CW.block ?_ | refine CW.region ?_ | refine CW.skip ?_ | refine CW.exit ?_ | refine CW.ret ?_ | (refine thn_ret (K := K) ?_; clear hK K) | refine thn_ret ?_ | refine blk_ret ?_ | (refine thn_exit (K := K) ?_; clear hK K) | refine thn_exit ?_ | refine blk_here ?_ | refine blk_past rfl ?_ | refine thn_norm ?_ | refine blk_norm ?_ | refine CW.condT rfl ?_ | refine CW.condF rfl ?_ | (refine hK _ _ ?_; clear hK K))
    refine out1 (v := .int .i64 e) Try.results33 rfl ?_ (Or.inr rfl)
    rw [e1]
    exact ⟨rfl, tag, fun _ _ => rfl, ⟨FA, fcap, fs, h1⟩, ti c1⟩
  | true =>
    repeat (first | refine WL.nil ?_ | refine WL.auto (h := ?_) | refine WL.gskip rfl rfl rfl rfl ?_ | refine WL.gauto (h := ?_) | (refine CW.seq ?_; intro K hK) | refine CW.block ?_ | refine CW.region ?_ | refine CW.skip ?_ | refine CW.exit ?_ | refine CW.ret ?_ | (refine thn_ret (K := K) ?_; clear hK K) | refine thn_ret ?_ | refine blk_ret ?_ | (refine thn_exit (K := K) ?_; clear hK K) | refine thn_exit ?_ | refine blk_here ?_ | refine blk_past rfl ?_ | refine thn_norm ?_ | refine blk_norm ?_ | refine CW.condT rfl ?_ | refine CW.condF rfl ?_ | (refine hK _ _ ?_; clear hK K))
    first | refine WL.step rfl ?_ | refine WL.gstep rfl rfl rfl rfl ?_
    refine OpW.call ((find71 tag db FA fcap fs d1 s w1 h1 (by rw [hf1]; omega)).mono ?_) rfl
    rintro v w2 ⟨g2, ⟨hx, rfl⟩ | ⟨i, f, fb, hx, hi, hfb, hname, rfl⟩⟩
    · have h2 := h1.grow g2
      have hb2 := h2.blk
      repeat (first | refine WL.nil ?_ | refine WL.auto (h := ?_) | refine WL.gskip rfl rfl rfl rfl ?_ | refine WL.gauto (h := ?_) | (refine CW.seq ?_; intro K hK) | refine CW.block ?_ | refine CW.region ?_ | refine CW.skip ?_ | refine CW.exit ?_ | refine CW.ret ?_ | (refine thn_ret (K := K) ?_; clear hK K) | refine thn_ret ?_ | refine blk_ret ?_ | (refine thn_exit (K := K) ?_; clear hK K) | refine thn_exit ?_ | refine blk_here ?_ | refine blk_past rfl ?_ | refine thn_norm ?_ | refine blk_norm ?_ | refine CW.condT rfl ?_ | refine CW.condF rfl ?_ | (refine hK _ _ ?_; clear hK K))
      first | refine WL.step rfl ?_ | refine WL.gstep rfl rfl rfl rfl ?_
      refine OpW.call ((right72 s w2 (by omega)).mono ?_) rfl
      rintro v w3 ⟨rfl, g3⟩
      have h3 := h2.grow g3
      have hb3 := h3.blk
      have hG : d.append s b = if rightName s = false ∨ d1.files.length = 16 then (max e 50, d1) else (e, { d1 with files := d1.files ++ [⟨s, b, 0⟩] }) := by
        unfold PD.append; rw [hbg]
        simp only [if_true]
        rw [hx]
      have hn1 : d1.files.length ≤ 16 := by rw [hf1]; exact hn
      by_cases hbad : rightName s = false ∨ d1.files.length = 16
      · rw [if_pos hbad] at hG
        cases hrn : rightName s with
        | false =>
          repeat (first | refine WL.nil ?_ | refine WL.auto (h := ?_) | refine WL.gskip rfl rfl rfl rfl ?_ | refine WL.gskipU rfl rfl rfl rfl ?_ | refine WL.gauto (h := ?_) | (refine CW.seq ?_; intro K hK) | refine CW.block ?_ | refine CW.region ?_ | refine CW.skip ?_ | refine CW.exit ?_ | refine CW.ret ?_ | (refine thn_ret (K := K) ?_; clear hK K) | refine thn_ret ?_ | refine blk_ret ?_ | (refine thn_exit (K := K) ?_; clear hK K) | refine thn_exit ?_ | refine blk_here ?_ | refine blk_past rfl ?_ | refine thn_norm ?_ | refine blk_norm ?_ | refine CW.condT rfl ?_ | refine CW.condF rfl ?_ | (refine hK _ _ ?_; clear hK K))
          refine out1 (v := .int .i64 (max e 50)) Try.results33 (congrArg (Value.int .i64) (by simp only [Int.max_def]; split <;> split <;> omega)) ?_ (Or.inr rfl)
          rw [hG]
          exact ⟨rfl, tag, fun _ _ => rfl, ⟨FA, fcap, fs, h3⟩, (ti c1).grow (g2.then g3)⟩
        | true =>
          have h16 : d1.files.length = 16 := hbad.resolve_left (by simp [hrn])
          repeat (first | refine WL.nil ?_ | refine WL.auto (h := ?_) | refine WL.gskip rfl rfl rfl rfl ?_ | refine WL.gskipU rfl rfl rfl rfl ?_ | refine WL.gauto (h := ?_) | (refine CW.seq ?_; intro K hK) | refine CW.block ?_ | refine CW.region ?_ | refine CW.skip ?_ | refine CW.exit ?_ | refine CW.ret ?_ | (refine thn_ret (K := K) ?_; clear hK K) | refine thn_ret ?_ | refine blk_ret ?_ | (refine thn_exit (K := K) ?_; clear hK K) | refine thn_exit ?_ | refine blk_here ?_ | refine blk_past rfl ?_ | refine thn_norm ?_ | refine blk_norm ?_ | refine CW.condT rfl ?_ | refine CW.condF rfl ?_ | (refine hK _ _ ?_; clear hK K))
          rw [decide_eq_true (p := (d1.files.length : Int) = 16) (by omega)]
          repeat (first | refine WL.nil ?_ | refine WL.auto (h := ?_) | refine WL.gskip rfl rfl rfl rfl ?_ | refine WL.gskipU rfl rfl rfl rfl ?_ | refine WL.gauto (h := ?_) | (refine CW.seq ?_; intro K hK) | refine CW.block ?_ | refine CW.region ?_ | refine CW.skip ?_ | refine CW.exit ?_ | refine CW.ret ?_ | (refine thn_ret (K := K) ?_; clear hK K) | refine thn_ret ?_ | refine blk_ret ?_ | (refine thn_exit (K := K) ?_; clear hK K) | refine thn_exit ?_ | refine blk_here ?_ | refine blk_past rfl ?_ | refine thn_norm ?_ | refine blk_norm ?_ | refine CW.condT rfl ?_ | refine CW.condF rfl ?_ | (refine hK _ _ ?_; clear hK K))
          refine out1 (v := .int .i64 (max e 50)) Try.results33 (congrArg (Value.int .i64) (by simp only [Int.max_def]; split <;> split <;> omega)) ?_ (Or.inr rfl)
          rw [hG]
          exact ⟨rfl, tag, fun _ _ => rfl, ⟨FA, fcap, fs, h3⟩, (ti c1).grow (g2.then g3)⟩
      · rw [if_neg hbad] at hG
        have hrn : rightName s = true := by cases hq : rightName s with
          | true => rfl
          | false => exact absurd (Or.inl hq) hbad
        have h16 : ¬ d1.files.length = 16 := fun h => hbad (Or.inr h)
        rw [hrn]
        repeat (first | refine WL.nil ?_ | refine WL.auto (h := ?_) | refine WL.gskip rfl rfl rfl rfl ?_ | refine WL.gskipU rfl rfl rfl rfl ?_ | refine WL.gauto (h := ?_) | (refine CW.seq ?_; intro K hK) | refine CW.block ?_ | refine CW.region ?_ | refine CW.skip ?_ | refine CW.exit ?_ | refine CW.ret ?_ | (refine thn_ret (K := K) ?_; clear hK K) | refine thn_ret ?_ | refine blk_ret ?_ | (refine thn_exit (K := K) ?_; clear hK K) | refine thn_exit ?_ | refine blk_here ?_ | refine blk_past rfl ?_ | refine thn_norm ?_ | refine blk_norm ?_ | refine CW.condT rfl ?_ | refine CW.condF rfl ?_ | (refine hK _ _ ?_; clear hK K))
        rw [decide_eq_false (p := (d1.files.length : Int) = 16) (by omega)]
        repeat (first | refine WL.nil ?_ | refine WL.auto (h := ?_) | refine WL.gskip rfl rfl rfl rfl ?_ | refine WL.gskipU rfl rfl rfl rfl ?_ | refine WL.gauto (h := ?_) | (refine CW.seq ?_; intro K hK) | refine CW.block ?_ | refine CW.region ?_ | refine CW.skip ?_ | refine CW.exit ?_ | refine CW.ret ?_ | (refine thn_ret (K := K) ?_; clear hK K) | refine thn_ret ?_ | refine blk_ret ?_ | (refine thn_exit (K := K) ?_; clear hK K) | refine thn_exit ?_ | refine blk_here ?_ | refine blk_past rfl ?_ | refine thn_norm ?_ | refine blk_norm ?_ | refine CW.condT rfl ?_ | refine CW.condF rfl ?_ | (refine hK _ _ ?_; clear hK K))
        first | refine WL.step rfl ?_ | refine WL.gstep rfl rfl rfl rfl ?_
        refine OpW.build (cells := #[.string (bstr s), .slice none 0 0, .int .i64 0]) rfl rfl ?_
        repeat (first | refine WL.nil ?_ | refine WL.auto (h := ?_) | refine WL.gskip rfl rfl rfl rfl ?_ | refine WL.gauto (h := ?_) | (refine CW.seq ?_; intro K hK) | refine CW.block ?_ | refine CW.region ?_ | refine CW.skip ?_ | refine CW.exit ?_ | refine CW.ret ?_ | (refine thn_ret (K := K) ?_; clear hK K) | refine thn_ret ?_ | refine blk_ret ?_ | (refine thn_exit (K := K) ?_; clear hK K) | refine thn_exit ?_ | refine blk_here ?_ | refine blk_past rfl ?_ | refine thn_norm ?_ | refine blk_norm ?_ | refine CW.condT rfl ?_ | refine CW.condF rfl ?_ | (refine hK _ _ ?_; clear hK K))
        first | refine WL.step rfl ?_ | refine WL.gstep rfl rfl rfl rfl ?_
        refine OpW.box (v := .agg #[.string (bstr s), .slice none 0 0, .int .i64 0]) rfl ?_
        intro fb w4 n4
        have hf4 : Blk w4 fb #[.string (bstr s), .slice none 0 0, .int .i64 0] 109 := n4.blk
        have h4 := h3.grow n4.grow
        have hb4 := h4.blk
        repeat (first | refine WL.nil ?_ | refine WL.auto (h := ?_) | refine WL.gskip rfl rfl rfl rfl ?_ | refine WL.gauto (h := ?_) | (refine CW.seq ?_; intro K hK) | refine CW.block ?_ | refine CW.region ?_ | refine CW.skip ?_ | refine CW.exit ?_ | refine CW.ret ?_ | (refine thn_ret (K := K) ?_; clear hK K) | refine thn_ret ?_ | refine blk_ret ?_ | (refine thn_exit (K := K) ?_; clear hK K) | refine thn_exit ?_ | refine blk_here ?_ | refine blk_past rfl ?_ | refine thn_norm ?_ | refine blk_norm ?_ | refine CW.condT rfl ?_ | refine CW.condF rfl ?_ | (refine hK _ _ ?_; clear hK K))
        first | refine WL.step rfl ?_ | refine WL.gstep rfl rfl rfl rfl ?_
        refine OpW.buildLit [.pointer (some ⟨fb, 0, none⟩)] rfl rfl rfl (by intro v hv; simp only [List.mem_cons, List.not_mem_nil, or_false] at hv; subst hv; rfl) ?_
        intro b5 w5 n5
        have h5 := h4.grow n5.grow
        repeat (first | refine WL.nil ?_ | refine WL.auto (h := ?_) | refine WL.gskip rfl rfl rfl rfl ?_ | refine WL.gauto (h := ?_) | (refine CW.seq ?_; intro K hK) | refine CW.block ?_ | refine CW.region ?_ | refine CW.skip ?_ | refine CW.exit ?_ | refine CW.ret ?_ | (refine thn_ret (K := K) ?_; clear hK K) | refine thn_ret ?_ | refine blk_ret ?_ | (refine thn_exit (K := K) ?_; clear hK K) | refine thn_exit ?_ | refine blk_here ?_ | refine blk_past rfl ?_ | refine thn_norm ?_ | refine blk_norm ?_ | refine CW.condT rfl ?_ | refine CW.condF rfl ?_ | (refine hK _ _ ?_; clear hK K))
        first | refine WL.step rfl ?_ | refine WL.gstep rfl rfl rfl rfl ?_
        refine OpW.append (ys := [.pointer (some ⟨fb, 0, none⟩)]) rfl rfl rfl h5.own (blk_sl_lit n5) rfl (by intro v hv; simp only [List.mem_cons, List.not_mem_nil, or_false] at hv; subst hv; rfl) ⟨by omega, by omega⟩ (fun FA' fcap' w6 o6 c6 _ => ?_)
        have hb6 := h5.blk.keep c6 (by rintro ⟨a, ha, e⟩; have := (h5.own.in_ ha).1; rw [e, h5.tg] at this; cases this)
        have fbn : w3.heap.size ≤ fb := n4.fresh
        have hf6 := (hf4.grow n5.grow).keep c6 (by rintro ⟨a, ha, e⟩; have := (h3.own.in_ ha).2; omega)
        repeat (first | refine WL.nil ?_ | refine WL.auto (h := ?_) | refine WL.gskip rfl rfl rfl rfl ?_ | refine WL.gauto (h := ?_) | (refine CW.seq ?_; intro K hK) | refine CW.block ?_ | refine CW.region ?_ | refine CW.skip ?_ | refine CW.exit ?_ | refine CW.ret ?_ | (refine thn_ret (K := K) ?_; clear hK K) | refine thn_ret ?_ | refine blk_ret ?_ | (refine thn_exit (K := K) ?_; clear hK K) | refine thn_exit ?_ | refine blk_here ?_ | refine blk_past rfl ?_ | refine thn_norm ?_ | refine blk_norm ?_ | refine CW.condT rfl ?_ | refine CW.condF rfl ?_ | (refine hK _ _ ?_; clear hK K))
        refine WL.step0 ?_
        refine OpW.store (v := .slice _ _ _) rfl rfl rfl hb6 rfl (c' := #[_, _, _]) rfl ?_
        intro w7 hp7 hb7
        have dbl : db < w3.heap.size := h3.blk.lt
        have hf7 := hf6.keep hp7.chg (by intro e; omega)
        repeat (first | refine WL.nil ?_ | refine WL.auto (h := ?_) | refine WL.gskip rfl rfl rfl rfl ?_ | refine WL.gauto (h := ?_) | (refine CW.seq ?_; intro K hK) | refine CW.block ?_ | refine CW.region ?_ | refine CW.skip ?_ | refine CW.exit ?_ | refine CW.ret ?_ | (refine thn_ret (K := K) ?_; clear hK K) | refine thn_ret ?_ | refine blk_ret ?_ | (refine thn_exit (K := K) ?_; clear hK K) | refine thn_exit ?_ | refine blk_here ?_ | refine blk_past rfl ?_ | refine thn_norm ?_ | refine blk_norm ?_ | refine CW.condT rfl ?_ | refine CW.condF rfl ?_ | (refine hK _ _ ?_; clear hK K))
        have hb1 : Sl w1 B (bvs b) := hb.keepN c1 fun hne a ha e => by have := hB (bvs_ne hne) a ha; rw [e, h.tg] at this; cases this
        have hb5 : Sl w5 B (bvs b) := hb1.grow (g2.then (g3.then (n4.grow.then n5.grow)))
        have hbw6 : Sl w6 B (bvs b) := hb5.keepN c6 (by rintro hne a ha ⟨a', ha', e⟩; have := hB (bvs_ne hne) a ha; rw [← e, (h3.own.in_ ha').1] at this; cases this)
        have hbw7 : Sl w7 B (bvs b) := hbw6.keepN hp7.chg fun hne a ha e => by have := hB (bvs_ne hne) a ha; rw [e, h.tg] at this; cases this
        first | refine WL.step rfl ?_ | refine WL.gstep rfl rfl rfl rfl ?_
        refine OpW.append rfl rfl rfl (Own.nil w7 5 1 (fun _ => False)) hbw7 (bvs_len1 b) (bvs_one b) ⟨by omega, by omega⟩ (fun A8 cap8 w8 o8 c8 _ => ?_)
        have g8 : Grow w7 w8 := c8.mono fun k _ ⟨a, ha, _⟩ => by cases ha
        have hf8 := hf7.grow g8
        repeat (first | refine WL.nil ?_ | refine WL.auto (h := ?_) | refine WL.gskip rfl rfl rfl rfl ?_ | refine WL.gauto (h := ?_) | (refine CW.seq ?_; intro K hK) | refine CW.block ?_ | refine CW.region ?_ | refine CW.skip ?_ | refine CW.exit ?_ | refine CW.ret ?_ | (refine thn_ret (K := K) ?_; clear hK K) | refine thn_ret ?_ | refine blk_ret ?_ | (refine thn_exit (K := K) ?_; clear hK K) | refine thn_exit ?_ | refine blk_here ?_ | refine blk_past rfl ?_ | refine thn_norm ?_ | refine blk_norm ?_ | refine CW.condT rfl ?_ | refine CW.condF rfl ?_ | (refine hK _ _ ?_; clear hK K))
        refine WL.step0 ?_
        refine OpW.store (v := .slice _ _ _) rfl rfl rfl hf8 rfl (c' := #[_, _, _]) rfl ?_
        intro w9 hp9 hf9
        repeat (first | refine WL.nil ?_ | refine WL.auto (h := ?_) | refine WL.gskip rfl rfl rfl rfl ?_ | refine WL.gauto (h := ?_) | (refine CW.seq ?_; intro K hK) | refine CW.block ?_ | refine CW.region ?_ | refine CW.skip ?_ | refine CW.exit ?_ | refine CW.ret ?_ | (refine thn_ret (K := K) ?_; clear hK K) | refine thn_ret ?_ | refine blk_ret ?_ | (refine thn_exit (K := K) ?_; clear hK K) | refine thn_exit ?_ | refine blk_here ?_ | refine blk_past rfl ?_ | refine thn_norm ?_ | refine blk_norm ?_ | refine CW.condT rfl ?_ | refine CW.condF rfl ?_ | (refine hK _ _ ?_; clear hK K))
        refine out1 (v := .int .i64 e) Try.results33 rfl ?_ (Or.inr rfl)
        rw [hG]
        rw [Nat.zero_add] at o8 hf9
        rw [List.nil_append] at o8
        have s34 := n4.grow.size
        have s45 := n5.grow.size
        have s56 := c6.size
        have s67 := hp7.size
        have fb4 : fb < w4.heap.size := hf4.lt
        have C39 : Chg (fun k => k = db ∨ ∃ a, FA = some a ∧ a.block = k) w3 w9 := by
          have a1 : Chg (fun k => k = db ∨ ∃ a, FA = some a ∧ a.block = k) w3 w6 := Grow.chg (n4.grow.then n5.grow) (c6.mono fun k _ hk => Or.inr hk)
          have a2 := (a1.andThen (hp7.chg.mono fun k _ hk => Or.inl hk)).grow g8
          exact a2.trans hp9.chg fun i hi e => by subst e; omega
        refine ⟨rfl, fun k => if k < w3.heap.size then tag k else if k = fb then .file d1.files.length else if k < w7.heap.size then .arr else .data d1.files.length, fun k hk => ?_, ⟨FA', fcap', fs ++ [fb], ?_⟩, ?_⟩
        · show (if _ then _ else _) = _
          rw [if_pos (by have := c1.size; have := g2.size; have := g3.size; omega)]
        · have hR := h3.retag (tag' := fun k => if k < w3.heap.size then tag k else if k = fb then .file d1.files.length else if k < w7.heap.size then .arr else .data d1.files.length) fun k hk => if_pos hk
          have tfb : (if fb < w3.heap.size then tag fb else if fb = fb then Tag.file d1.files.length else if fb < w7.heap.size then .arr else .data d1.files.length) = .file d1.files.length := by rw [if_neg (by omega), if_pos rfl]
          refine ⟨hR.tg, ?_, ?_, ?_, fun i f gb q1 q2 => ?_⟩
          · have := (hb7.grow g8).keep hp9.chg (by intro e; omega)
            simpa using this
          · have o6z := o6.zone (Z' := fun k => (if k < w3.heap.size then tag k else if k = fb then Tag.file d1.files.length else if k < w7.heap.size then .arr else .data d1.files.length) = .arr) fun a ha => by
              have hin := o6.in_ ha
              rcases hin.1 with ⟨a', h1', h2'⟩ | h1'
              · have q := h3.own.in_ h1'
                rw [h2'] at q
                show (if _ then _ else _) = _
                rw [if_pos q.2]; exact q.1
              · show (if _ then _ else _) = _
                rw [if_neg (by omega), if_neg (by omega), if_pos (by omega)]
            have o9 := ((o6z.keep hp7.chg fun k hk e => by
              subst e
              rw [if_pos dbl, h3.tg] at hk; cases hk).grow g8).keep hp9.chg fun k hk e => by
              subst e
              rw [tfb] at hk; cases hk
            simpa [ptrs] using o9
          · simp [h3.len]
          · rcases Nat.lt_or_ge i d1.files.length with hi | hi
            · rw [List.getElem?_append_left hi] at q1
              rw [List.getElem?_append_left (by rw [h3.len]; exact hi)] at q2
              obtain ⟨r1, r2⟩ := hR.file i f gb q1 q2
              refine ⟨r1, r2.keep C39 ?_ fun k hk => ?_⟩
              · rintro (e | ⟨a, ha, e⟩)
                · rw [e, hR.tg] at r1; cases r1
                · have q := (hR.own.in_ ha).1
                  rw [e, r1] at q; cases q
              · rintro (e | ⟨a, ha, e⟩)
                · rw [e, hR.tg] at hk; cases hk
                · have q := (hR.own.in_ ha).1
                  rw [e, hk] at q; cases q
            · have hin : i = d1.files.length := by
                have := (List.getElem?_eq_some_iff.1 q1).1
                simp at this; omega
              subst hin
              rw [List.getElem?_append_right (Nat.le_refl _), Nat.sub_self] at q1
              rw [List.getElem?_append_right (by rw [h3.len]; exact Nat.le_refl _), h3.len, Nat.sub_self] at q2
              simp only [List.getElem?_cons_zero, Option.some.injEq] at q1 q2
              subst q1 q2
              refine ⟨tfb, A8, cap8, hf9, ?_⟩
              have o8z := o8.zone (Z' := fun k => (if k < w3.heap.size then tag k else if k = fb then Tag.file d1.files.length else if k < w7.heap.size then .arr else .data d1.files.length) = .data d1.files.length) fun a ha => by
                rcases (o8.in_ ha).1 with ⟨a', h1', _⟩ | h1'
                · cases h1'
                · show (if _ then _ else _) = _
                  rw [if_neg (by omega), if_neg (by omega), if_neg (by omega)]
              exact o8z.keep hp9.chg fun k hk e => by
                subst e
                rw [tfb] at hk; cases hk
        · refine ((ti c1).grow (g2.then g3)).andThen (C39.mono fun k _ hk => ?_)
          rcases hk with rfl | ⟨a, ha, rfl⟩
          · rw [h.tg]; rfl
          · rw [(h3.own.in_ ha).1]; rfl
    · have h2 := h1.grow g2
      have e1 : d.append s b = (e, { d1 with files := d1.files.set i { f with data := f.data ++ b } }) := by
        unfold PD.append; rw [hbg]
        simp only [if_true]
        rw [hx]
        show (e, { d1 with files := d1.files.modify i fun f => { f with data := f.data ++ b } }) = _
        rw [modify_set hi]
      obtain ⟨ht, DA, dcap, hfc, hfo⟩ := h2.file i f fb hi hfb
      have hfl : f.data.length ≤ 1099511627776 := hd f (by rw [← hf1]; exact List.mem_of_getElem? hi)
      repeat (first | refine WL.nil ?_ | refine WL.auto (h := ?_) | refine WL.gskip rfl rfl rfl rfl ?_ | refine WL.gskipU rfl rfl rfl rfl ?_ | refine WL.gauto (h := ?_) | (refine CW.seq ?_; intro K hK) | refine CW.block ?_ | refine CW.region ?_ | refine CW.skip ?_ | refine CW.exit ?_ | refine CW.ret ?_ | (refine thn_ret (K := K) ?_; clear hK K) | refine thn_ret ?_ | refine blk_ret ?_ | (refine thn_exit (K := K) ?_; clear hK K) | refine thn_exit ?_ | refine blk_here ?_ | refine blk_past rfl ?_ | refine thn_norm ?_ | refine blk_norm ?_ | refine CW.condT rfl ?_ | refine CW.condF rfl ?_ | (refine hK _ _ ?_; clear hK K))
      have hb1 : Sl w1 B (bvs b) := hb.keepN c1 fun hne a ha e => by have := hB (bvs_ne hne) a ha; rw [e, h.tg] at this; cases this
      first | refine WL.step rfl ?_ | refine WL.gstep rfl rfl rfl rfl ?_
      refine OpW.append rfl rfl rfl hfo (hb1.grow g2) (bvs_len1 b) (bvs_one b) ⟨by omega, by omega⟩ (fun A' c' w3 o3 c3 _ => ?_)
      rw [← List.length_append, ← bvs_append] at o3
      rw [← List.length_append]
      have hfc3 := hfc.keep c3 (by rintro ⟨a, ha, e⟩; have := (hfo.in_ ha).1; rw [e, ht] at this; cases this)
      repeat (first | refine WL.nil ?_ | refine WL.auto (h := ?_) | refine WL.gskip rfl rfl rfl rfl ?_ | refine WL.gauto (h := ?_) | (refine CW.seq ?_; intro K hK) | refine CW.block ?_ | refine CW.region ?_ | refine CW.skip ?_ | refine CW.exit ?_ | refine CW.ret ?_ | (refine thn_ret (K := K) ?_; clear hK K) | refine thn_ret ?_ | refine blk_ret ?_ | (refine thn_exit (K := K) ?_; clear hK K) | refine thn_exit ?_ | refine blk_here ?_ | refine blk_past rfl ?_ | refine thn_norm ?_ | refine blk_norm ?_ | refine CW.condT rfl ?_ | refine CW.condF rfl ?_ | (refine hK _ _ ?_; clear hK K))
      refine WL.step0 ?_
      refine OpW.store (v := .slice _ _ _) rfl rfl rfl hfc3 rfl (c' := #[_, _, _]) rfl ?_
      intro w4 hp4 hb4
      repeat (first | refine WL.nil ?_ | refine WL.auto (h := ?_) | refine WL.gskip rfl rfl rfl rfl ?_ | refine WL.gauto (h := ?_) | (refine CW.seq ?_; intro K hK) | refine CW.block ?_ | refine CW.region ?_ | refine CW.skip ?_ | refine CW.exit ?_ | refine CW.ret ?_ | (refine thn_ret (K := K) ?_; clear hK K) | refine thn_ret ?_ | refine blk_ret ?_ | (refine thn_exit (K := K) ?_; clear hK K) | refine thn_exit ?_ | refine blk_here ?_ | refine blk_past rfl ?_ | refine thn_norm ?_ | refine blk_norm ?_ | refine CW.condT rfl ?_ | refine CW.condF rfl ?_ | (refine hK _ _ ?_; clear hK K))
      refine out1 (v := .int .i64 e) Try.results33 rfl ?_ (Or.inr rfl)
      rw [e1]
      have hlt : ∀ {k}, k < w2.heap.size → (if k < w2.heap.size then tag k else .data i) = tag k := fun hk => by rw [if_pos hk]
      have hfb2 : fb < w2.heap.size := hfc.lt
      have hz : ∀ k, (∃ a, DA = some a ∧ a.block = k) ∨ w2.heap.size ≤ k → (if k < w2.heap.size then tag k else .data i) = .data i := by
        rintro k (⟨a, ha, rfl⟩ | hk)
        · rw [hlt (hfo.in_ ha).2]; exact (hfo.in_ ha).1
        · rw [if_neg (by omega)]
      have hR := h2.retag (tag' := fun k => if k < w2.heap.size then tag k else .data i) fun k hk => hlt hk
      have hC : Chg (fun k => k = fb ∨ ∃ a, DA = some a ∧ a.block = k) w2 w4 := (c3.mono fun k _ hk => Or.inr hk).andThen (hp4.chg.mono fun k _ hk => Or.inl hk)
      refine ⟨rfl, fun k => if k < w2.heap.size then tag k else .data i, fun k hk => hlt (by have := c1.size; have := g2.size; omega), ⟨FA, fcap, fs, hR.setFile hi hfb hC (fun k hk => ?_) ⟨A', c', hb4, ?_⟩⟩, ?_⟩
      · rcases hk with rfl | hk
        · exact Or.inl (by rw [hlt hfb2]; exact ht)
        · exact Or.inr (Or.inl (hz k (Or.inl hk)))
      · exact (o3.mono hz).keep hp4.chg fun k hk e => by
          subst e
          rw [hlt hfb2, ht] at hk; cases hk
      · refine ((ti c1).grow g2).andThen (hC.mono fun k _ hk => ?_)
        rcases hk with rfl | ⟨a, ha, rfl⟩
        · rw [ht]; rfl
        · rw [(hfo.in_ ha).1]; rfl
end B
end Go.Proofs.Ytlofcomnhecgfaa
