/- Load of a disk. Sizes are bounded. -/
import Derived.Test.YtlofcomnhecgfaaDiskH
namespace Go.Proofs.Ytlofcomnhecgfaa
namespace B
attribute [local irreducible] OpW WL CW Ret Sl Blk thn blk outOf
set_option linter.unusedVariables false
set_option linter.unusedSimpArgs false
set_option maxRecDepth 4000

/-- A file more: its cells, its bytes and, it may be, the row of files in new blocks. -/
theorem DiskAt.snoc {tag : Nat → Tag} {w w' : World} {db fb : Nat} {FA FA' DA : Option Addr} {fcap fcap' cap : Nat} {fs : List Nat} {d : PD} {f : PF} (inA : Nat → Bool) (h : DiskAt tag w db FA fcap fs d)
    (C : Chg (fun k => k = db ∨ ∃ a, FA = some a ∧ a.block = k) w w')
    (hb : Blk w' db #[.slice FA' (d.files.length + 1) fcap', .bool d.off, .int .i64 (d.armed : Int)] 102)
    (ho : Own w' FA' 105 1 (d.files.length + 1) fcap' (ptrs (fs ++ [fb])) (fun b => (∃ a, FA = some a ∧ a.block = b) ∨ (w.heap.size ≤ b ∧ inA b = true)))
    (hf : w.heap.size ≤ fb) (hfa : inA fb = false) (hfb : Blk w' fb #[.string (bstr f.name), .slice DA f.data.length cap, .int .i64 (f.safe : Int)] 109)
    (hd : Own w' DA 5 1 f.data.length cap (bvs f.data) (fun b => w.heap.size ≤ b ∧ inA b = false ∧ b ≠ fb)) :
    ∃ tag', (∀ k, k < w.heap.size → tag' k = tag k) ∧ DiskAt tag' w' db FA' fcap' (fs ++ [fb]) { d with files := d.files ++ [f] } := by
  refine ⟨fun k => if k < w.heap.size then tag k else if k = fb then .file d.files.length else if inA k = true then .arr else .data d.files.length, fun k hk => if_pos hk, ?_⟩
  have hR := h.retag (tag' := fun k => if k < w.heap.size then tag k else if k = fb then .file d.files.length else if inA k = true then .arr else .data d.files.length) fun k hk => if_pos hk
  have tfb : (if fb < w.heap.size then tag fb else if fb = fb then Tag.file d.files.length else if inA fb = true then .arr else .data d.files.length) = .file d.files.length := by rw [if_neg (by omega), if_pos rfl]
  refine ⟨hR.tg, ?_, ?_, ?_, fun i g gb q1 q2 => ?_⟩
  · simpa using hb
  · have o6z := ho.zone (Z' := fun k => (if k < w.heap.size then tag k else if k = fb then Tag.file d.files.length else if inA k = true then .arr else .data d.files.length) = .arr) fun a ha => by
      rcases (ho.in_ ha).1 with ⟨a', h1', h2'⟩ | h1'
      · have q := h.own.in_ h1'
        rw [h2'] at q
        show (if _ then _ else _) = _
        rw [if_pos q.2]; exact q.1
      · show (if _ then _ else _) = _
        rw [if_neg (by omega), if_neg (fun e => by rw [e, hfa] at h1'; cases h1'.2), if_pos h1'.2]
    simpa using o6z
  · simp [h.len]
  · rcases Nat.lt_or_ge i d.files.length with hi | hi
    · rw [List.getElem?_append_left hi] at q1
      rw [List.getElem?_append_left (by rw [h.len]; exact hi)] at q2
      obtain ⟨r1, r2⟩ := hR.file i g gb q1 q2
      refine ⟨r1, r2.keep C ?_ fun k hk => ?_⟩
      · rintro (e | ⟨a, ha, e⟩)
        · rw [e, hR.tg] at r1; cases r1
        · have q := (hR.own.in_ ha).1
          rw [e, r1] at q; cases q
      · rintro (e | ⟨a, ha, e⟩)
        · rw [e, hR.tg] at hk; cases hk
        · have q := (hR.own.in_ ha).1
          rw [e, hk] at q; cases q
    · have hin : i = d.files.length := by
        have := (List.getElem?_eq_some_iff.1 q1).1
        simp at this; omega
      subst hin
      rw [List.getElem?_append_right (Nat.le_refl _), Nat.sub_self] at q1
      rw [List.getElem?_append_right (by rw [h.len]; exact Nat.le_refl _), h.len, Nat.sub_self] at q2
      simp only [List.getElem?_cons_zero, Option.some.injEq] at q1 q2
      subst q1 q2
      refine ⟨tfb, DA, cap, hfb, hd.zone fun a ha => ?_⟩
      have q := (hd.in_ ha).1
      show (if _ then _ else _) = _
      rw [if_neg (by omega), if_neg q.2.2, if_neg (by simp [q.2.1])]

/-- Files that came in: their row and their bytes in Z. -/
def FilesIn (w : World) (A : Option Addr) (xs : List (List UInt8 × List UInt8)) (Z : Nat → Prop) : Prop :=
  ∃ cells : List Value, Sl w A cells ∧ (cells ≠ [] → ∀ a, A = some a → Z a.block) ∧ cells.length = xs.length * 2 ∧ ∀ i x, xs[i]? = some x → ∃ DA cap, (cells.drop (i * 2)).take 2 = [.string (bstr x.1), .slice DA x.2.length cap] ∧ Sl w DA (bvs x.2) ∧ (bvs x.2 ≠ [] → ∀ a, DA = some a → Z a.block) ∧ x.2.length ≤ cap
theorem FilesIn.keep {S : Nat → Prop} {w w' : World} {A : Option Addr} {xs : List (List UInt8 × List UInt8)} {Z : Nat → Prop} (h : FilesIn w A xs Z) (hc : Chg S w w') (hn : ∀ b, Z b → ¬ S b) : FilesIn w' A xs Z := by
  obtain ⟨cells, h1, h2, h3, h4⟩ := h
  refine ⟨cells, h1.keepN hc fun hne a ha => hn _ (h2 hne a ha), h2, h3, fun i x hx => ?_⟩
  obtain ⟨DA, cap, k1, k2, k3, k4⟩ := h4 i x hx
  exact ⟨DA, cap, k1, k2.keepN hc fun hne a ha => hn _ (k3 hne a ha), k3, k4⟩
theorem FilesIn.grow {w w' : World} {A : Option Addr} {xs : List (List UInt8 × List UInt8)} {Z : Nat → Prop} (h : FilesIn w A xs Z) (hc : Grow w w') : FilesIn w' A xs Z := h.keep hc fun _ _ hf => hf
theorem FilesOut.in_ {w : World} {OA : Option Addr} {cap : Nat} {xs : List (List UInt8 × List UInt8)} {ZA ZD : Nat → Prop} (h : FilesOut w OA cap xs ZA ZD) : FilesIn w OA xs (fun b => ZA b ∨ ZD b) := by
  obtain ⟨cells, g1, g2⟩ := h
  refine ⟨cells, g1.sl, fun _ a ha => Or.inl (g1.in_ ha).1, g1.1, fun i x hx => ?_⟩
  obtain ⟨DA, g3, g4⟩ := g2 i x hx
  exact ⟨DA, _, g3, g4.sl, fun _ a ha => Or.inr (g4.in_ ha).1, Nat.le_refl _⟩

def loadGo (acc : List PF) : List (List UInt8 × List UInt8) → Option (List PF)
  | [] => some acc
  | x :: l => if rightName x.1 = false ∨ (PD.ix ⟨acc, false, 0⟩ x.1).isSome = true ∨ acc.length = 16 then none else loadGo (acc ++ [⟨x.1, x.2, x.2.length⟩]) l
/-- What Load leaves: no disk, or one with these files. -/
def Loaded (tag : Nat → Tag) (w w' : World) (v : Value) : Option (List PF) → Prop
  | none => v = .tuple #[.pointer none, .int .i64 50]
  | some l => ∃ db tag', v = .tuple #[.pointer (some ⟨db, 0, none⟩), .int .i64 0] ∧ (∀ k, k < w.heap.size → tag' k = tag k) ∧ DiskRep tag' w' db ⟨l, false, 0⟩
theorem load35 (tag : Nat → Tag) (A : Option Addr) (cap : Nat) (xs : List (List UInt8 × List UInt8)) (Z : Nat → Prop) (w : World) (hx : FilesIn w A xs Z) (hl : xs.length ≤ 1099511627776) (hs : ∀ x ∈ xs, x.1.length ≤ 1099511627776 ∧ x.2.length ≤ 1099511627776) :
    Ret Try.prog 35 #[.slice A xs.length cap] w fun v w' => Grow w w' ∧ Loaded tag w w' v (loadGo [] xs) := by
  refine Ret.enter (fn := Try.f35) (N := 54) Try.func35 rfl Try.ntmps35 rfl ?_
  repeat (first | refine WL.nil ?_ | refine WL.auto (h := ?_) | refine WL.gskip rfl rfl rfl rfl ?_ | refine WL.gauto (h := ?_) | (refine CW.seq ?_; intro K hK) | refine CW.block ?_ | refine CW.region ?_ | refine CW.skip ?_ | refine CW.exit ?_ | refine CW.ret ?_ | (refine thn_ret (K := K) ?_; clear hK K) | refine thn_ret ?_ | refine blk_ret ?_ | (refine thn_exit (K := K) ?_; clear hK K) | refine thn_exit ?_ | refine blk_here ?_ | refine blk_past rfl ?_ | refine thn_norm ?_ | refine blk_norm ?_ | refine CW.condT rfl ?_ | refine CW.condF rfl ?_ | (refine hK _ _ ?_; clear hK K))
  first | refine WL.step rfl ?_ | refine WL.gstep rfl rfl rfl rfl ?_
  refine OpW.call ((new30 w).mono ?_) rfl
  rintro v w1 ⟨db, rfl, n1⟩
  have d1 : DiskAt (fun b => if b < w.heap.size then tag b else .disk) w1 db none 0 [] ⟨[], false, 0⟩ :=
    ⟨by show (if _ then _ else _) = _; rw [if_neg (by have := n1.fresh; omega)], n1.blk, Own.nil _ _ _ _, rfl, fun i f fb h => by simp at h⟩
  have g1 := n1.grow
  repeat (first | refine WL.nil ?_ | refine WL.auto (h := ?_) | refine WL.gskip rfl rfl rfl rfl ?_ | refine WL.gauto (h := ?_) | (refine CW.seq ?_; intro K hK) | refine CW.block ?_ | refine CW.region ?_ | refine CW.skip ?_ | refine CW.exit ?_ | refine CW.ret ?_ | (refine thn_ret (K := K) ?_; clear hK K) | refine thn_ret ?_ | refine blk_ret ?_ | (refine thn_exit (K := K) ?_; clear hK K) | refine thn_exit ?_ | refine blk_here ?_ | refine blk_past rfl ?_ | refine thn_norm ?_ | refine blk_norm ?_ | refine CW.condT rfl ?_ | refine CW.condF rfl ?_ | (refine hK _ _ ?_; clear hK K))
  refine CW.loop (fun n' e w2 => ∃ (k : Nat) (acc : List PF) (tag' : Nat → Tag) (FA : Option Addr) (fcap : Nat) (fs : List Nat), k ≤ xs.length ∧ n' = xs.length - k ∧ loadGo [] xs = loadGo acc (xs.drop k) ∧ acc.length = k ∧ k ≤ 16 ∧ Grow w w2 ∧ (∀ j, j < w.heap.size → tag' j = tag j) ∧ DiskAt tag' w2 db FA fcap fs ⟨acc, false, 0⟩ ∧ w.heap.size ≤ db ∧
    (∀ a, FA = some a → w.heap.size ≤ a.block) ∧ ∃ e0, e = upd (upd (upd (upd e0 4 (.pointer (some ⟨db, 0, none⟩))) 8 (.slice A xs.length cap)) 9 (.int .i64 xs.length)) 10 (.int .i64 k)) xs.length ?_ ?_
  · exact ⟨0, [], _, none, 0, [], by omega, rfl, rfl, rfl, by omega, g1, fun j hj => if_pos hj, d1, n1.fresh, fun a ha => (by cases ha), rep4 rfl rfl rfl rfl⟩
  clear d1 g1 n1
  rintro n' e w2 ⟨k, acc, tag', FA, fcap, fs, hk, rfl, hgo, hal, hk16, g2, ht, hd, hdb, hFA, e0, rfl⟩ KJ hJ
  repeat (first | refine WL.nil ?_ | refine WL.auto (h := ?_) | refine WL.gskip rfl rfl rfl rfl ?_ | refine WL.gauto (h := ?_) | (refine CW.seq ?_; intro K hK) | refine CW.block ?_ | refine CW.region ?_ | refine CW.skip ?_ | refine CW.exit ?_ | refine CW.ret ?_ | (refine thn_ret (K := K) ?_; clear hK K) | refine thn_ret ?_ | refine blk_ret ?_ | (refine thn_exit (K := K) ?_; clear hK K) | refine thn_exit ?_ | refine blk_here ?_ | refine blk_past rfl ?_ | refine thn_norm ?_ | refine blk_norm ?_ | refine CW.condT rfl ?_ | refine CW.condF rfl ?_ | (refine hK _ _ ?_; clear hK K))
  refine CW.condP rfl (fun h2 => ?_) (fun h2 => ?_)
  · have hkl : k < xs.length := by omega
    have hx2 := hx.grow g2
    obtain ⟨cells, q1, q2, q3, q4⟩ := hx2
    obtain ⟨DA, dcap, k1, k2, k3, k4⟩ := q4 k xs[k] (List.getElem?_eq_getElem hkl)
    have hdrop : xs.drop k = xs[k] :: xs.drop (k + 1) := List.drop_eq_getElem_cons hkl
    rw [hdrop] at hgo
    obtain ⟨hs1, hs2⟩ := hs xs[k] (List.getElem_mem hkl)
    generalize xs[k] = x at *
    obtain ⟨nm, bs⟩ := x
    simp only at k1 k2 k4 hs1 hs2
    have hlt : k * 2 < cells.length := by omega
    repeat (first | refine WL.nil ?_ | refine WL.auto (h := ?_) | refine WL.gskip rfl rfl rfl rfl ?_ | refine WL.gauto (h := ?_) | (refine CW.seq ?_; intro K hK) | refine CW.block ?_ | refine CW.region ?_ | refine CW.skip ?_ | refine CW.exit ?_ | refine CW.ret ?_ | (refine thn_ret (K := K) ?_; clear hK K) | refine thn_ret ?_ | refine blk_ret ?_ | (refine thn_exit (K := K) ?_; clear hK K) | refine thn_exit ?_ | refine blk_here ?_ | refine blk_past rfl ?_ | refine thn_norm ?_ | refine blk_norm ?_ | refine CW.condT rfl ?_ | refine CW.condF rfl ?_ | (refine hK _ _ ?_; clear hK K))
    first | refine WL.step rfl ?_ | refine WL.gstep rfl rfl rfl rfl ?_
    refine OpW.indexAddr k rfl rfl rfl hkl (sl_ne q1 hlt) (sl_sp q1 hlt) ?_
    repeat (first | refine WL.nil ?_ | refine WL.auto (h := ?_) | refine WL.gskip rfl rfl rfl rfl ?_ | refine WL.gauto (h := ?_) | (refine CW.seq ?_; intro K hK) | refine CW.block ?_ | refine CW.region ?_ | refine CW.skip ?_ | refine CW.exit ?_ | refine CW.ret ?_ | (refine thn_ret (K := K) ?_; clear hK K) | refine thn_ret ?_ | refine blk_ret ?_ | (refine thn_exit (K := K) ?_; clear hK K) | refine thn_exit ?_ | refine blk_here ?_ | refine blk_past rfl ?_ | refine thn_norm ?_ | refine blk_norm ?_ | refine CW.condT rfl ?_ | refine CW.condF rfl ?_ | (refine hK _ _ ?_; clear hK K))
    first | refine WL.step rfl ?_ | refine WL.gstep rfl rfl rfl rfl ?_
    refine OpW.loadAggS _ rfl q1 k1 rfl (by decide) ?_
    repeat (first | refine WL.nil ?_ | refine WL.auto (h := ?_) | refine WL.gskip rfl rfl rfl rfl ?_ | refine WL.gauto (h := ?_) | (refine CW.seq ?_; intro K hK) | refine CW.block ?_ | refine CW.region ?_ | refine CW.skip ?_ | refine CW.exit ?_ | refine CW.ret ?_ | (refine thn_ret (K := K) ?_; clear hK K) | refine thn_ret ?_ | refine blk_ret ?_ | (refine thn_exit (K := K) ?_; clear hK K) | refine thn_exit ?_ | refine blk_here ?_ | refine blk_past rfl ?_ | refine thn_norm ?_ | refine blk_norm ?_ | refine CW.condT rfl ?_ | refine CW.condF rfl ?_ | (refine hK _ _ ?_; clear hK K))
    first | refine WL.step rfl ?_ | refine WL.gstep rfl rfl rfl rfl ?_
    refine OpW.alloc (fun b3 w3 n3 => ?_)
    repeat (first | refine WL.nil ?_ | refine WL.auto (h := ?_) | refine WL.gskip rfl rfl rfl rfl ?_ | refine WL.gauto (h := ?_) | (refine CW.seq ?_; intro K hK) | refine CW.block ?_ | refine CW.region ?_ | refine CW.skip ?_ | refine CW.exit ?_ | refine CW.ret ?_ | (refine thn_ret (K := K) ?_; clear hK K) | refine thn_ret ?_ | refine blk_ret ?_ | (refine thn_exit (K := K) ?_; clear hK K) | refine thn_exit ?_ | refine blk_here ?_ | refine blk_past rfl ?_ | refine thn_norm ?_ | refine blk_norm ?_ | refine CW.condT rfl ?_ | refine CW.condF rfl ?_ | (refine hK _ _ ?_; clear hK K))
    refine WL.step0 ?_
    refine OpW.storeAll rfl rfl rfl n3.blk rfl rfl (fun w4 p4 hb => ?_)
    have g4 : Grow w2 w4 := n3.grow.chgNew p4.chg (fun i hi h => by subst h; have := n3.fresh; omega)
    have hd4 := hd.grow g4
    have hb4 := hd4.blk
    have hf3 := n3.fresh
    have k24 := k2.grow g4
    repeat (first | refine WL.nil ?_ | refine WL.auto (h := ?_) | refine WL.gskip rfl rfl rfl rfl ?_ | refine WL.gauto (h := ?_) | (refine CW.seq ?_; intro K hK) | refine CW.block ?_ | refine CW.region ?_ | refine CW.skip ?_ | refine CW.exit ?_ | refine CW.ret ?_ | (refine thn_ret (K := K) ?_; clear hK K) | refine thn_ret ?_ | refine blk_ret ?_ | (refine thn_exit (K := K) ?_; clear hK K) | refine thn_exit ?_ | refine blk_here ?_ | refine blk_past rfl ?_ | refine thn_norm ?_ | refine blk_norm ?_ | refine CW.condT rfl ?_ | refine CW.condF rfl ?_ | (refine hK _ _ ?_; clear hK K))
    first | refine WL.step rfl ?_ | refine WL.gstep rfl rfl rfl rfl ?_
    refine OpW.call ((right72 nm w4 (by omega)).mono ?_) rfl
    rintro v w5 ⟨rfl, g5⟩
    have hd5 := hd4.grow g5
    have hb5 := hd5.blk
    replace hb := hb.grow g5
    have k25 := k24.grow g5
    have g25 := g4.then g5
    clear hb4 hd4
    cases hrn : rightName nm with
    | false =>
      repeat (first | refine WL.nil ?_ | refine WL.auto (h := ?_) | refine WL.gskip rfl rfl rfl rfl ?_ | refine WL.gskipU rfl rfl rfl rfl ?_ | refine WL.gauto (h := ?_) | (refine CW.seq ?_; intro K hK) | refine CW.block ?_ | refine CW.region ?_ | refine CW.skip ?_ | refine CW.exit ?_ | refine CW.ret ?_ | (refine thn_ret (K := K) ?_; clear hK K) | refine thn_ret ?_ | refine blk_ret ?_ | (refine thn_exit (K := K) ?_; clear hK K) | refine thn_exit ?_ | refine blk_here ?_ | refine blk_past rfl ?_ | refine thn_norm ?_ | refine blk_norm ?_ | refine CW.condT rfl ?_ | refine CW.condF rfl ?_ | (refine hK _ _ ?_; clear hK K))
      refine out2 (v1 := .pointer none) (v2 := .int .i64 50) Try.results35 rfl rfl ⟨g2.then g25, ?_⟩ (Or.inr rfl)
      rw [hgo, loadGo, if_pos (Or.inl hrn)]
      exact rfl
    | true =>
      repeat (first | refine WL.nil ?_ | refine WL.auto (h := ?_) | refine WL.gskip rfl rfl rfl rfl ?_ | refine WL.gskipU rfl rfl rfl rfl ?_ | refine WL.gauto (h := ?_) | (refine CW.seq ?_; intro K hK) | refine CW.block ?_ | refine CW.region ?_ | refine CW.skip ?_ | refine CW.exit ?_ | refine CW.ret ?_ | (refine thn_ret (K := K) ?_; clear hK K) | refine thn_ret ?_ | refine blk_ret ?_ | (refine thn_exit (K := K) ?_; clear hK K) | refine thn_exit ?_ | refine blk_here ?_ | refine blk_past rfl ?_ | refine thn_norm ?_ | refine blk_norm ?_ | refine CW.condT rfl ?_ | refine CW.condF rfl ?_ | (refine hK _ _ ?_; clear hK K))
      first | refine WL.step rfl ?_ | refine WL.gstep rfl rfl rfl rfl ?_
      refine OpW.call ((find71 tag' db FA fcap fs _ nm w5 hd5 (by show acc.length ≤ _; omega)).mono ?_) rfl
      rintro v w6 ⟨g6, ⟨hxn, rfl⟩ | ⟨i, f, fb, hxs, hi, hfb, hname, rfl⟩⟩
      · have hd6 := hd5.grow g6
        have hb6 := hd6.blk
        replace hb := hb.grow g6
        have k26 := k25.grow g6
        have g26 := g25.then g6
        clear hb5 hd5
        by_cases h16 : acc.length = 16
        · repeat (first | refine WL.nil ?_ | refine WL.auto (h := ?_) | refine WL.gskip rfl rfl rfl rfl ?_ | refine WL.gskipU rfl rfl rfl rfl ?_ | refine WL.gauto (h := ?_) | (refine CW.seq ?_; intro K hK) | refine CW.block ?_ | refine CW.region ?_ | refine CW.skip ?_ | refine CW.exit ?_ | refine CW.ret ?_ | (refine thn_ret (K := K) ?_; clear hK K) | refine thn_ret ?_ | refine blk_ret ?_ | (refine thn_exit (K := K) ?_; clear hK K) | refine thn_exit ?_ | refine blk_here ?_ | refine blk_past rfl ?_ | refine thn_norm ?_ | refine blk_norm ?_ | refine CW.condT rfl ?_ | refine CW.condF rfl ?_ | (refine hK _ _ ?_; clear hK K))
          rw [decide_eq_true (p := (acc.length : Int) = 16) (by omega)]
          repeat (first | refine WL.nil ?_ | refine WL.auto (h := ?_) | refine WL.gskip rfl rfl rfl rfl ?_ | refine WL.gskipU rfl rfl rfl rfl ?_ | refine WL.gauto (h := ?_) | (refine CW.seq ?_; intro K hK) | refine CW.block ?_ | refine CW.region ?_ | refine CW.skip ?_ | refine CW.exit ?_ | refine CW.ret ?_ | (refine thn_ret (K := K) ?_; clear hK K) | refine thn_ret ?_ | refine blk_ret ?_ | (refine thn_exit (K := K) ?_; clear hK K) | refine thn_exit ?_ | refine blk_here ?_ | refine blk_past rfl ?_ | refine thn_norm ?_ | refine blk_norm ?_ | refine CW.condT rfl ?_ | refine CW.condF rfl ?_ | (refine hK _ _ ?_; clear hK K))
          refine out2 (v1 := .pointer none) (v2 := .int .i64 50) Try.results35 rfl rfl ⟨g2.then g26, ?_⟩ (Or.inr rfl)
          rw [hgo, loadGo, if_pos (Or.inr (Or.inr h16))]
          exact rfl
        · repeat (first | refine WL.nil ?_ | refine WL.auto (h := ?_) | refine WL.gskip rfl rfl rfl rfl ?_ | refine WL.gskipU rfl rfl rfl rfl ?_ | refine WL.gauto (h := ?_) | (refine CW.seq ?_; intro K hK) | refine CW.block ?_ | refine CW.region ?_ | refine CW.skip ?_ | refine CW.exit ?_ | refine CW.ret ?_ | (refine thn_ret (K := K) ?_; clear hK K) | refine thn_ret ?_ | refine blk_ret ?_ | (refine thn_exit (K := K) ?_; clear hK K) | refine thn_exit ?_ | refine blk_here ?_ | refine blk_past rfl ?_ | refine thn_norm ?_ | refine blk_norm ?_ | refine CW.condT rfl ?_ | refine CW.condF rfl ?_ | (refine hK _ _ ?_; clear hK K))
          rw [decide_eq_false (p := (acc.length : Int) = 16) (by omega)]
          repeat (first | refine WL.nil ?_ | refine WL.auto (h := ?_) | refine WL.gskip rfl rfl rfl rfl ?_ | refine WL.gskipU rfl rfl rfl rfl ?_ | refine WL.gauto (h := ?_) | (refine CW.seq ?_; intro K hK) | refine CW.block ?_ | refine CW.region ?_ | refine CW.skip ?_ | refine CW.exit ?_ | refine CW.ret ?_ | (refine thn_ret (K := K) ?_; clear hK K) | refine thn_ret ?_ | refine blk_ret ?_ | (refine thn_exit (K := K) ?_; clear hK K) | refine thn_exit ?_ | refine blk_here ?_ | refine blk_past rfl ?_ | refine thn_norm ?_ | refine blk_norm ?_ | refine CW.condT rfl ?_ | refine CW.condF rfl ?_ | (refine hK _ _ ?_; clear hK K))
          have hne1 : ¬ (∃ a, FA = some a ∧ a.block = db) := by
            rintro ⟨a, ha, e⟩
            have := (hd6.own.in_ ha).1
            rw [e, hd6.tg] at this; cases this
          have hne2 : ¬ (∃ a, FA = some a ∧ a.block = b3) := by
            rintro ⟨a, ha, e⟩
            have := (hd.own.in_ ha).2
            omega
          have dlt : db < w2.heap.size := hd.blk.lt
          refine CW.held2 19 (fun b => ∃ a, FA = some a ∧ a.block = b) (fun b => b = db ∨ ∃ a, FA = some a ∧ a.block = b) (.take 0 (.take 1 (.take 2 (.take 3 (.take 4 (.take 5 (.take 6 (.take 7 (.take 8 (.take 10 (.take 11 (.take 12 (.one 9 (.one 13 (.one 14 (.one 15 (.one 16 (.take 17 (.take 18 (.one 19 .nil)))))))))))))))))))) (fun _ h => Or.inr h) rfl (by kernel_rfl) (by kernel_rfl) (fun w7 g7 => ?_)
          repeat (first | refine AL2.autoU (hn := ?_) | refine AL2.auto (hn := ?_) | refine AL2.gskip rfl rfl rfl rfl rfl ?_ | refine AL2.goneSkip rfl rfl rfl rfl rfl rfl ?_ | refine AL2.gskipU rfl rfl rfl rfl rfl ?_ | refine AL2.goneSkipU rfl rfl rfl rfl rfl rfl ?_ | refine AL2.gautoU (hn := ?_) | refine AL2.gauto (hn := ?_) | refine AL2.oauto (hn := ?_))
          first | refine AL2.one rfl rfl rfl ?_ | refine AL2.gone rfl rfl rfl rfl rfl rfl ?_
          refine OpW.call ((clone73 _ _ _ _ (k26.grow g7) (by omega)).mono ?_) rfl
          rintro v w9 ⟨A9, c9, rfl, o9, g9⟩
          refine ⟨fun h => h.grow g9, ?_⟩
          repeat (first | refine AL2.autoU (hn := ?_) | refine AL2.auto (hn := ?_) | refine AL2.gskip rfl rfl rfl rfl rfl ?_ | refine AL2.goneSkip rfl rfl rfl rfl rfl rfl ?_ | refine AL2.gskipU rfl rfl rfl rfl rfl ?_ | refine AL2.goneSkipU rfl rfl rfl rfl rfl rfl ?_ | refine AL2.gautoU (hn := ?_) | refine AL2.gauto (hn := ?_) | refine AL2.oauto (hn := ?_))
          first | refine AL2.one rfl rfl rfl ?_ | refine AL2.gone rfl rfl rfl rfl rfl rfl ?_
          refine OpW.build (cells := #[.string (bstr nm), .slice A9 bs.length c9, .int .i64 bs.length]) rfl rfl ⟨id, ?_⟩
          first | refine AL2.one rfl rfl rfl ?_ | refine AL2.gone rfl rfl rfl rfl rfl rfl ?_
          refine OpW.box (v := .agg #[.string (bstr nm), .slice A9 bs.length c9, .int .i64 bs.length]) rfl ?_
          intro fb w10 n10
          refine ⟨fun h => h.grow n10.grow, ?_⟩
          first | refine AL2.one rfl rfl rfl ?_ | refine AL2.gone rfl rfl rfl rfl rfl rfl ?_
          refine OpW.buildLit [.pointer (some ⟨fb, 0, none⟩)] rfl rfl rfl (by intro v hv; simp only [List.mem_cons, List.not_mem_nil, or_false] at hv; subst hv; rfl) ?_
          intro b11 w11 n11
          refine ⟨fun h => h.grow n11.grow, ?_⟩
          have g611 : Grow w6 w11 := g7.then (g9.then (n10.grow.then n11.grow))
          first | refine AL2.one rfl rfl rfl ?_ | refine AL2.gone rfl rfl rfl rfl rfl rfl ?_
          refine OpW.append (ys := [.pointer (some ⟨fb, 0, none⟩)]) rfl rfl rfl (hd6.own.grow g611) (blk_sl_lit n11) rfl (by intro v hv; simp only [List.mem_cons, List.not_mem_nil, or_false] at hv; subst hv; rfl) ⟨by show (acc.length + 1) * 8 ≤ _; omega, by show acc.length + 1 ≤ _; omega⟩ (fun FA' fcap' w12 o12 c12 _ => ?_)
          refine ⟨fun h => h.andThen c12, ?_⟩
          repeat (first | refine AL2.autoU (hn := ?_) | refine AL2.auto (hn := ?_) | refine AL2.gskip rfl rfl rfl rfl rfl ?_ | refine AL2.goneSkip rfl rfl rfl rfl rfl rfl ?_ | refine AL2.gskipU rfl rfl rfl rfl rfl ?_ | refine AL2.goneSkipU rfl rfl rfl rfl rfl rfl ?_ | refine AL2.gautoU (hn := ?_) | refine AL2.gauto (hn := ?_) | refine AL2.oauto (hn := ?_))
          refine AL2.last0 rfl rfl ?_
          have hb12 := (hb6.grow g611).keep c12 hne1
          refine OpW.store (v := .slice _ _ _) rfl rfl rfl hb12 rfl (c' := #[_, _, _]) rfl ?_
          intro w13 hp13 hb13
          refine ⟨fun h => (h.mono fun k _ hk => Or.inr hk).andThen (hp13.chg.mono fun k _ hk => Or.inl hk), ?_⟩
          repeat (first | refine AL.nil ?_ | refine AL.auto (hn := ?_) | refine AL.gskip rfl rfl rfl rfl rfl ?_ | refine AL.goneSkip rfl rfl rfl rfl rfl ?_ | refine AL.gauto (hn := ?_) | refine AL.oauto (hn := ?_))
          repeat (first | refine WL.nil ?_ | refine WL.auto (h := ?_) | refine WL.gskip rfl rfl rfl rfl ?_ | refine WL.gauto (h := ?_) | (refine CW.seq ?_; intro K hK) | refine CW.block ?_ | refine CW.region ?_ | refine CW.skip ?_ | refine CW.exit ?_ | refine CW.ret ?_ | (refine thn_ret (K := K) ?_; clear hK K) | refine thn_ret ?_ | refine blk_ret ?_ | (refine thn_exit (K := K) ?_; clear hK K) | refine thn_exit ?_ | refine blk_here ?_ | refine blk_past rfl ?_ | refine thn_norm ?_ | refine blk_norm ?_ | refine CW.condT rfl ?_ | refine CW.condF rfl ?_ | (refine hK _ _ ?_; clear hK K))
          have z6 : w6.heap.size ≤ w7.heap.size := g7.size
          have z7 : w7.heap.size ≤ w9.heap.size := g9.size
          have z9 : w9.heap.size ≤ fb := n10.fresh
          have fb10 : fb < w10.heap.size := n10.blk.lt
          have z10 : w10.heap.size ≤ w11.heap.size := n11.grow.size
          have z11 : w11.heap.size ≤ w12.heap.size := c12.size
          have z26 : w2.heap.size ≤ w6.heap.size := g26.size
          have z2 : w.heap.size ≤ w2.heap.size := g2.size
          have C613 : Chg (fun k => k = db ∨ ∃ a, FA = some a ∧ a.block = k) w6 w13 := (Grow.chg g611 (c12.mono fun k _ hk => Or.inr hk)).andThen (hp13.chg.mono fun k _ hk => Or.inl hk)
          have hfbk : Blk w13 fb #[.string (bstr nm), .slice A9 bs.length c9, .int .i64 bs.length] 109 := ((n10.blk.grow n11.grow).keep c12 (by
            rintro ⟨a, ha, e⟩
            have := (hd6.own.in_ ha).2
            omega)).keep hp13.chg (by intro e; omega)
          have o9' := ((o9.grow (n10.grow.then n11.grow)).keep c12 (by
            rintro k hk ⟨a, ha, rfl⟩
            have h7 := (hd6.own.in_ ha).2
            have h8 : w7.heap.size ≤ a.block := hk
            omega)).keep hp13.chg (by
            intro k hk e
            have h8 : w7.heap.size ≤ k := hk
            omega)
          have lt9 : ∀ a, A9 = some a → w7.heap.size ≤ a.block ∧ a.block < w9.heap.size := fun a ha => ⟨(o9.in_ ha).1, (o9.in_ ha).2⟩
          have o12' := o12.keep hp13.chg (by
            rintro k (⟨a, ha, rfl⟩ | hk) e
            · exact hne1 ⟨a, ha, e⟩
            · omega)
          obtain ⟨tag2, ht2, hD⟩ := hd6.snoc (f := ⟨nm, bs, bs.length⟩) (fun b => decide (w10.heap.size ≤ b)) C613 hb13 (by
              have : ptrs (fs ++ [fb]) = ptrs fs ++ [.pointer (some ⟨fb, 0, none⟩)] := by simp [ptrs]
              rw [this]
              exact o12'.zone fun a ha => by
                rcases (o12'.in_ ha).1 with h7 | h7
                · exact Or.inl h7
                · exact Or.inr ⟨by omega, decide_eq_true (by omega)⟩) (by omega) (decide_eq_false (by omega)) hfbk (o9'.zone fun a ha => by
              have h7 := lt9 a ha
              exact ⟨by omega, decide_eq_false (by omega), by omega⟩)
          have gw13 : Grow w w13 := (g2.then g26).chgNew C613 (by
            rintro i hi (e | ⟨a, ha, e⟩)
            · omega
            · have := hFA a ha; omega)
          refine hJ (xs.length - (k + 1)) _ _ (by omega) ⟨k + 1, acc ++ [⟨nm, bs, bs.length⟩], tag2, FA', fcap', fs ++ [fb], by omega, rfl, ?_, by simp [hal], by omega, gw13, fun j hj => ?_, hD, hdb, fun a ha => ?_, rep4 rfl rfl rfl (congrArg (Value.int .i64) (by omega))⟩
          · rw [hgo, loadGo, if_neg (by rw [hrn, hxn]; simp [h16])]
          · rw [ht2 j (by omega)]; exact ht j hj
          · rcases (o12.in_ ha).1 with ⟨a', h7, h8⟩ | h7
            · have := hFA a' h7; omega
            · omega
      · repeat (first | refine WL.nil ?_ | refine WL.auto (h := ?_) | refine WL.gskip rfl rfl rfl rfl ?_ | refine WL.gskipU rfl rfl rfl rfl ?_ | refine WL.gauto (h := ?_) | (refine CW.seq ?_; intro K hK) | refine CW.block ?_ | refine CW.region ?_ | refine CW.skip ?_ | refine CW.exit ?_ | refine CW.ret ?_ | (refine thn_ret (K := K) ?_; clear hK K) | refine thn_ret ?_ | refine blk_ret ?_ | (refine thn_exit (K := K) ?_; clear hK K) | refine thn_exit ?_ | refine blk_here ?_ | refine blk_past rfl ?_ | refine thn_norm ?_ | refine blk_norm ?_ | refine CW.condT rfl ?_ | refine CW.condF rfl ?_ | (refine hK _ _ ?_; clear hK K))
        refine out2 (v1 := .pointer none) (v2 := .int .i64 50) Try.results35 rfl rfl ⟨g2.then (g25.then g6), ?_⟩ (Or.inr rfl)
        rw [hgo, loadGo, if_pos (Or.inr (Or.inl (by rw [hxs]; rfl)))]
        exact rfl
  · obtain rfl : k = xs.length := by omega
    rw [List.drop_length] at hgo
    repeat (first | refine WL.nil ?_ | refine WL.auto (h := ?_) | refine WL.gskip rfl rfl rfl rfl ?_ | refine WL.gauto (h := ?_) | (refine CW.seq ?_; intro K hK) | refine CW.block ?_ | refine CW.region ?_ | refine CW.skip ?_ | refine CW.exit ?_ | refine CW.ret ?_ | (refine thn_ret (K := K) ?_; clear hK K) | refine thn_ret ?_ | refine blk_ret ?_ | (refine thn_exit (K := K) ?_; clear hK K) | refine thn_exit ?_ | refine blk_here ?_ | refine blk_past rfl ?_ | refine thn_norm ?_ | refine blk_norm ?_ | refine CW.condT rfl ?_ | refine CW.condF rfl ?_ | (refine hK _ _ ?_; clear hK K))
    refine out2 (v1 := .pointer (some ⟨db, 0, none⟩)) (v2 := .int .i64 0) Try.results35 rfl rfl ⟨g2, ?_⟩ (Or.inr rfl)
    rw [hgo]
    exact ⟨db, tag', rfl, ht, FA, fcap, fs, hd⟩
end B
end Go.Proofs.Ytlofcomnhecgfaa
