/- Load of the document's disk; Same. Sizes are bounded. -/
import Derived.Test.YtlofcomnhecgfaaDiskL
namespace Go.Proofs.Ytlofcomnhecgfaa
namespace B
attribute [local irreducible] OpW WL CW Ret Sl Blk thn blk outOf
set_option linter.unusedVariables false
set_option linter.unusedSimpArgs false
set_option maxRecDepth 4000

def LoadedR (tag : Nat → Tag) (w w' : World) (v : Value) : Option (List PF) → Prop
  | none => ∃ mb, v = .tuple #[.pointer (some ⟨mb, 0, none⟩), .int .i64 50]
  | some l => ∃ mb tag', v = .tuple #[.pointer (some ⟨mb, 0, none⟩), .int .i64 0] ∧ (∀ k, k < w.heap.size → tag' k = tag k) ∧ RefRep tag' w' mb ⟨l, false, 0⟩
theorem loadGo_long : ∀ (l : List (List UInt8 × List UInt8)) (acc : List PF), acc.length ≤ 16 → 16 < acc.length + l.length → loadGo acc l = none := by
  intro l
  induction l with
  | nil => intro acc h1 h2; simp at h2; omega
  | cons x l ih =>
    intro acc h1 h2
    rw [loadGo]
    split
    · rfl
    · rename_i h3
      refine ih _ ?_ ?_
      · simp; have : acc.length ≠ 16 := fun e => h3 (Or.inr (Or.inr e)); omega
      · simp only [List.length_append, List.length_cons, List.length_nil] at h2 ⊢; omega
theorem rload36 (tag : Nat → Tag) (A : Option Addr) (cap : Nat) (xs : List (List UInt8 × List UInt8)) (Z : Nat → Prop) (w : World) (hx : FilesIn w A xs Z) (hl : xs.length ≤ 1099511627776) (hs : ∀ x ∈ xs, x.1.length ≤ 1099511627776 ∧ x.2.length ≤ 1099511627776) :
    Ret Try.prog 36 #[.slice A xs.length cap] w fun v w' => Grow w w' ∧ LoadedR tag w w' v (loadGo [] xs) := by
  refine Ret.enter (fn := Try.f36) (N := 51) Try.func36 rfl Try.ntmps36 rfl ?_
  repeat (first | refine WL.nil ?_ | refine WL.auto (h := ?_) | refine WL.gskip rfl rfl rfl rfl ?_ | refine WL.gauto (h := ?_) | (refine CW.seq ?_; intro K hK) | refine CW.block ?_ | refine CW.region ?_ | refine CW.skip ?_ | refine CW.exit ?_ | refine CW.ret ?_ | (refine thn_ret (K := K) ?_; clear hK K) | refine thn_ret ?_ | refine blk_ret ?_ | (refine thn_exit (K := K) ?_; clear hK K) | refine thn_exit ?_ | refine blk_here ?_ | refine blk_past rfl ?_ | refine thn_norm ?_ | refine blk_norm ?_ | refine CW.condT rfl ?_ | refine CW.condF rfl ?_ | (refine hK _ _ ?_; clear hK K))
  first | refine WL.step rfl ?_ | refine WL.gstep rfl rfl rfl rfl ?_
  refine OpW.call ((new59 w).mono ?_) rfl
  rintro v w1 ⟨mb, rfl, n1⟩
  have d1 : RefAt (fun b => if b < w.heap.size then tag b else .rdisk) w1 mb none 0 [] ⟨[], false, 0⟩ :=
    ⟨by show (if _ then _ else _) = _; rw [if_neg (by have := n1.fresh; omega)], n1.blk, Own.nil _ _ _ _, fun i f h => by simp at h⟩
  have g1 := n1.grow
  repeat (first | refine WL.nil ?_ | refine WL.auto (h := ?_) | refine WL.gskip rfl rfl rfl rfl ?_ | refine WL.gauto (h := ?_) | (refine CW.seq ?_; intro K hK) | refine CW.block ?_ | refine CW.region ?_ | refine CW.skip ?_ | refine CW.exit ?_ | refine CW.ret ?_ | (refine thn_ret (K := K) ?_; clear hK K) | refine thn_ret ?_ | refine blk_ret ?_ | (refine thn_exit (K := K) ?_; clear hK K) | refine thn_exit ?_ | refine blk_here ?_ | refine blk_past rfl ?_ | refine thn_norm ?_ | refine blk_norm ?_ | refine CW.condT rfl ?_ | refine CW.condF rfl ?_ | (refine hK _ _ ?_; clear hK K))
  by_cases h16 : 16 < xs.length
  · rw [decide_eq_true (p := (16 : Int) < (xs.length : Int)) (by omega)]
    repeat (first | refine WL.nil ?_ | refine WL.auto (h := ?_) | refine WL.gskip rfl rfl rfl rfl ?_ | refine WL.gauto (h := ?_) | (refine CW.seq ?_; intro K hK) | refine CW.block ?_ | refine CW.region ?_ | refine CW.skip ?_ | refine CW.exit ?_ | refine CW.ret ?_ | (refine thn_ret (K := K) ?_; clear hK K) | refine thn_ret ?_ | refine blk_ret ?_ | (refine thn_exit (K := K) ?_; clear hK K) | refine thn_exit ?_ | refine blk_here ?_ | refine blk_past rfl ?_ | refine thn_norm ?_ | refine blk_norm ?_ | refine CW.condT rfl ?_ | refine CW.condF rfl ?_ | (refine hK _ _ ?_; clear hK K))
    refine out2 (v1 := .pointer (some ⟨mb, 0, none⟩)) (v2 := .int .i64 50) Try.results36 rfl rfl ⟨g1, ?_⟩ (Or.inr rfl)
    rw [loadGo_long xs [] (by simp) (by simpa using h16)]
    exact ⟨mb, rfl⟩
  rw [decide_eq_false (p := (16 : Int) < (xs.length : Int)) (by omega)]
  repeat (first | refine WL.nil ?_ | refine WL.auto (h := ?_) | refine WL.gskip rfl rfl rfl rfl ?_ | refine WL.gauto (h := ?_) | (refine CW.seq ?_; intro K hK) | refine CW.block ?_ | refine CW.region ?_ | refine CW.skip ?_ | refine CW.exit ?_ | refine CW.ret ?_ | (refine thn_ret (K := K) ?_; clear hK K) | refine thn_ret ?_ | refine blk_ret ?_ | (refine thn_exit (K := K) ?_; clear hK K) | refine thn_exit ?_ | refine blk_here ?_ | refine blk_past rfl ?_ | refine thn_norm ?_ | refine blk_norm ?_ | refine CW.condT rfl ?_ | refine CW.condF rfl ?_ | (refine hK _ _ ?_; clear hK K))
  refine CW.loop (fun n' e w2 => ∃ (k : Nat) (acc : List PF) (tag' : Nat → Tag) (RA : Option Addr) (rcap : Nat) (rc : List Value), k ≤ xs.length ∧ n' = xs.length - k ∧ loadGo [] xs = loadGo acc (xs.drop k) ∧ acc.length = k ∧ Grow w w2 ∧ (∀ j, j < w.heap.size → tag' j = tag j) ∧ RefAt tag' w2 mb RA rcap rc ⟨acc, false, 0⟩ ∧ w.heap.size ≤ mb ∧
    (∀ a, RA = some a → w.heap.size ≤ a.block) ∧ ∃ e0, e = upd (upd (upd (upd e0 4 (.pointer (some ⟨mb, 0, none⟩))) 12 (.slice A xs.length cap)) 13 (.int .i64 xs.length)) 14 (.int .i64 k)) xs.length ?_ ?_
  · exact ⟨0, [], _, none, 0, [], by omega, rfl, rfl, rfl, g1, fun j hj => if_pos hj, d1, n1.fresh, fun a ha => (by cases ha), rep4 rfl rfl rfl rfl⟩
  clear d1 g1 n1
  rintro n' e w2 ⟨k, acc, tag', RA, rcap, rc, hk, rfl, hgo, hal, g2, ht, hd, hdb, hFA, e0, rfl⟩ KJ hJ
  repeat (first | refine WL.nil ?_ | refine WL.auto (h := ?_) | refine WL.gskip rfl rfl rfl rfl ?_ | refine WL.gauto (h := ?_) | (refine CW.seq ?_; intro K hK) | refine CW.block ?_ | refine CW.region ?_ | refine CW.skip ?_ | refine CW.exit ?_ | refine CW.ret ?_ | (refine thn_ret (K := K) ?_; clear hK K) | refine thn_ret ?_ | refine blk_ret ?_ | (refine thn_exit (K := K) ?_; clear hK K) | refine thn_exit ?_ | refine blk_here ?_ | refine blk_past rfl ?_ | refine thn_norm ?_ | refine blk_norm ?_ | refine CW.condT rfl ?_ | refine CW.condF rfl ?_ | (refine hK _ _ ?_; clear hK K))
  refine CW.condP rfl (fun h2 => ?_) (fun h2 => ?_)
  · have hkl : k < xs.length := by omega
    have hx2 := hx.grow g2
    obtain ⟨cells, q1, q2, q3, q4⟩ := hx2
    obtain ⟨DA, dcap, k1, k2, k3, k4⟩ := q4 k xs[k] (List.getElem?_eq_getElem hkl)
    have hdrop : xs.drop k = xs[k] :: xs.drop (k + 1) := List.drop_eq_getElem_cons hkl
    rw [hdrop] at hgo
    obtain ⟨hs1, hs2⟩ := hs xs[k] (List.getElem_mem hkl)
    generalize xs[k] = x at *
    obtain ⟨nm, bs⟩ := x
    simp only at k1 k2 k4 hs1 hs2
    have hlt : k * 2 < cells.length := by omega
    repeat (first | refine WL.nil ?_ | refine WL.auto (h := ?_) | refine WL.gskip rfl rfl rfl rfl ?_ | refine WL.gauto (h := ?_) | (refine CW.seq ?_; intro K hK) | refine CW.block ?_ | refine CW.region ?_ | refine CW.skip ?_ | refine CW.exit ?_ | refine CW.ret ?_ | (refine thn_ret (K := K) ?_; clear hK K) | refine thn_ret ?_ | refine blk_ret ?_ | (refine thn_exit (K := K) ?_; clear hK K) | refine thn_exit ?_ | refine blk_here ?_ | refine blk_past rfl ?_ | refine thn_norm ?_ | refine blk_norm ?_ | refine CW.condT rfl ?_ | refine CW.condF rfl ?_ | (refine hK _ _ ?_; clear hK K))
    first | refine WL.step rfl ?_ | refine WL.gstep rfl rfl rfl rfl ?_
    refine OpW.indexAddr k rfl rfl rfl hkl (sl_ne q1 hlt) (sl_sp q1 hlt) ?_
    repeat (first | refine WL.nil ?_ | refine WL.auto (h := ?_) | refine WL.gskip rfl rfl rfl rfl ?_ | refine WL.gauto (h := ?_) | (refine CW.seq ?_; intro K hK) | refine CW.block ?_ | refine CW.region ?_ | refine CW.skip ?_ | refine CW.exit ?_ | refine CW.ret ?_ | (refine thn_ret (K := K) ?_; clear hK K) | refine thn_ret ?_ | refine blk_ret ?_ | (refine thn_exit (K := K) ?_; clear hK K) | refine thn_exit ?_ | refine blk_here ?_ | refine blk_past rfl ?_ | refine thn_norm ?_ | refine blk_norm ?_ | refine CW.condT rfl ?_ | refine CW.condF rfl ?_ | (refine hK _ _ ?_; clear hK K))
    first | refine WL.step rfl ?_ | refine WL.gstep rfl rfl rfl rfl ?_
    refine OpW.loadAggS _ rfl q1 k1 rfl (by decide) ?_
    repeat (first | refine WL.nil ?_ | refine WL.auto (h := ?_) | refine WL.gskip rfl rfl rfl rfl ?_ | refine WL.gauto (h := ?_) | (refine CW.seq ?_; intro K hK) | refine CW.block ?_ | refine CW.region ?_ | refine CW.skip ?_ | refine CW.exit ?_ | refine CW.ret ?_ | (refine thn_ret (K := K) ?_; clear hK K) | refine thn_ret ?_ | refine blk_ret ?_ | (refine thn_exit (K := K) ?_; clear hK K) | refine thn_exit ?_ | refine blk_here ?_ | refine blk_past rfl ?_ | refine thn_norm ?_ | refine blk_norm ?_ | refine CW.condT rfl ?_ | refine CW.condF rfl ?_ | (refine hK _ _ ?_; clear hK K))
    first | refine WL.step rfl ?_ | refine WL.gstep rfl rfl rfl rfl ?_
    refine OpW.alloc (fun b3 w3 n3 => ?_)
    repeat (first | refine WL.nil ?_ | refine WL.auto (h := ?_) | refine WL.gskip rfl rfl rfl rfl ?_ | refine WL.gauto (h := ?_) | (refine CW.seq ?_; intro K hK) | refine CW.block ?_ | refine CW.region ?_ | refine CW.skip ?_ | refine CW.exit ?_ | refine CW.ret ?_ | (refine thn_ret (K := K) ?_; clear hK K) | refine thn_ret ?_ | refine blk_ret ?_ | (refine thn_exit (K := K) ?_; clear hK K) | refine thn_exit ?_ | refine blk_here ?_ | refine blk_past rfl ?_ | refine thn_norm ?_ | refine blk_norm ?_ | refine CW.condT rfl ?_ | refine CW.condF rfl ?_ | (refine hK _ _ ?_; clear hK K))
    refine WL.step0 ?_
    refine OpW.storeAll rfl rfl rfl n3.blk rfl rfl (fun w4 p4 hb => ?_)
    have g4 : Grow w2 w4 := n3.grow.chgNew p4.chg (fun i hi h => by subst h; have := n3.fresh; omega)
    have hd4 := hd.grow g4
    have hf3 := n3.fresh
    have k24 := k2.grow g4
    repeat (first | refine WL.nil ?_ | refine WL.auto (h := ?_) | refine WL.gskip rfl rfl rfl rfl ?_ | refine WL.gauto (h := ?_) | (refine CW.seq ?_; intro K hK) | refine CW.block ?_ | refine CW.region ?_ | refine CW.skip ?_ | refine CW.exit ?_ | refine CW.ret ?_ | (refine thn_ret (K := K) ?_; clear hK K) | refine thn_ret ?_ | refine blk_ret ?_ | (refine thn_exit (K := K) ?_; clear hK K) | refine thn_exit ?_ | refine blk_here ?_ | refine blk_past rfl ?_ | refine thn_norm ?_ | refine blk_norm ?_ | refine CW.condT rfl ?_ | refine CW.condF rfl ?_ | (refine hK _ _ ?_; clear hK K))
    first | refine WL.step rfl ?_ | refine WL.gstep rfl rfl rfl rfl ?_
    refine OpW.call ((right74 nm w4 (by omega)).mono ?_) rfl
    rintro v w5 ⟨rfl, g5⟩
    have hd5 := hd4.grow g5
    replace hb := hb.grow g5
    have k25 := k24.grow g5
    have g25 := g4.then g5
    clear hd4
    cases hrn : rightName nm with
    | false =>
      repeat (first | refine WL.nil ?_ | refine WL.auto (h := ?_) | refine WL.gskip rfl rfl rfl rfl ?_ | refine WL.gskipU rfl rfl rfl rfl ?_ | refine WL.gauto (h := ?_) | (refine CW.seq ?_; intro K hK) | refine CW.block ?_ | refine CW.region ?_ | refine CW.skip ?_ | refine CW.exit ?_ | refine CW.ret ?_ | (refine thn_ret (K := K) ?_; clear hK K) | refine thn_ret ?_ | refine blk_ret ?_ | (refine thn_exit (K := K) ?_; clear hK K) | refine thn_exit ?_ | refine blk_here ?_ | refine blk_past rfl ?_ | refine thn_norm ?_ | refine blk_norm ?_ | refine CW.condT rfl ?_ | refine CW.condF rfl ?_ | (refine hK _ _ ?_; clear hK K))
      refine out2 (v1 := .pointer (some ⟨mb, 0, none⟩)) (v2 := .int .i64 50) Try.results36 rfl rfl ⟨g2.then g25, ?_⟩ (Or.inr rfl)
      rw [hgo, loadGo, if_pos (Or.inl hrn)]
      exact ⟨mb, rfl⟩
    | true =>
      repeat (first | refine WL.nil ?_ | refine WL.auto (h := ?_) | refine WL.gskip rfl rfl rfl rfl ?_ | refine WL.gskipU rfl rfl rfl rfl ?_ | refine WL.gauto (h := ?_) | (refine CW.seq ?_; intro K hK) | refine CW.block ?_ | refine CW.region ?_ | refine CW.skip ?_ | refine CW.exit ?_ | refine CW.ret ?_ | (refine thn_ret (K := K) ?_; clear hK K) | refine thn_ret ?_ | refine blk_ret ?_ | (refine thn_exit (K := K) ?_; clear hK K) | refine thn_exit ?_ | refine blk_here ?_ | refine blk_past rfl ?_ | refine thn_norm ?_ | refine blk_norm ?_ | refine CW.condT rfl ?_ | refine CW.condF rfl ?_ | (refine hK _ _ ?_; clear hK K))
      first | refine WL.step rfl ?_ | refine WL.gstep rfl rfl rfl rfl ?_
      refine OpW.call ((find75 tag' mb RA rcap rc _ nm w5 hd5 (by show acc.length ≤ _; omega)).mono ?_) rfl
      rintro v w6 ⟨g6, rfl⟩
      have hix : decide (0 ≤ ixInt (PD.ix ⟨acc, false, 0⟩ nm)) = (PD.ix ⟨acc, false, 0⟩ nm).isSome := by
        cases (PD.ix ⟨acc, false, 0⟩ nm) with
        | none => rfl
        | some i => exact decide_eq_true (by show (0 : Int) ≤ (i : Int); omega)
      cases hxn : PD.ix ⟨acc, false, 0⟩ nm with
      | some i =>
        rw [hxn] at hix
        repeat (first | refine WL.nil ?_ | refine WL.auto (h := ?_) | refine WL.gskip rfl rfl rfl rfl ?_ | refine WL.gskipU rfl rfl rfl rfl ?_ | refine WL.gauto (h := ?_) | (refine CW.seq ?_; intro K hK) | refine CW.block ?_ | refine CW.region ?_ | refine CW.skip ?_ | refine CW.exit ?_ | refine CW.ret ?_ | (refine thn_ret (K := K) ?_; clear hK K) | refine thn_ret ?_ | refine blk_ret ?_ | (refine thn_exit (K := K) ?_; clear hK K) | refine thn_exit ?_ | refine blk_here ?_ | refine blk_past rfl ?_ | refine thn_norm ?_ | refine blk_norm ?_ | refine CW.condT rfl ?_ | refine CW.condF rfl ?_ | (refine hK _ _ ?_; clear hK K))
        rw [show decide ((0 : Int) ≤ ixInt (some i)) = true from hix]
        repeat (first | refine WL.nil ?_ | refine WL.auto (h := ?_) | refine WL.gskip rfl rfl rfl rfl ?_ | refine WL.gskipU rfl rfl rfl rfl ?_ | refine WL.gauto (h := ?_) | (refine CW.seq ?_; intro K hK) | refine CW.block ?_ | refine CW.region ?_ | refine CW.skip ?_ | refine CW.exit ?_ | refine CW.ret ?_ | (refine thn_ret (K := K) ?_; clear hK K) | refine thn_ret ?_ | refine blk_ret ?_ | (refine thn_exit (K := K) ?_; clear hK K) | refine thn_exit ?_ | refine blk_here ?_ | refine blk_past rfl ?_ | refine thn_norm ?_ | refine blk_norm ?_ | refine CW.condT rfl ?_ | refine CW.condF rfl ?_ | (refine hK _ _ ?_; clear hK K))
        refine out2 (v1 := .pointer (some ⟨mb, 0, none⟩)) (v2 := .int .i64 50) Try.results36 rfl rfl ⟨g2.then (g25.then g6), ?_⟩ (Or.inr rfl)
        rw [hgo, loadGo, if_pos (Or.inr (Or.inl (by rw [hxn]; rfl)))]
        exact ⟨mb, rfl⟩
      | none =>
        have hd6 := hd5.grow g6
        have hb6 := hd6.blk
        replace hb := hb.grow g6
        have k26 := k25.grow g6
        have g26 := g25.then g6
        clear hd5
        repeat (first | refine WL.nil ?_ | refine WL.auto (h := ?_) | refine WL.gskip rfl rfl rfl rfl ?_ | refine WL.gskipU rfl rfl rfl rfl ?_ | refine WL.gauto (h := ?_) | (refine CW.seq ?_; intro K hK) | refine CW.block ?_ | refine CW.region ?_ | refine CW.skip ?_ | refine CW.exit ?_ | refine CW.ret ?_ | (refine thn_ret (K := K) ?_; clear hK K) | refine thn_ret ?_ | refine blk_ret ?_ | (refine thn_exit (K := K) ?_; clear hK K) | refine thn_exit ?_ | refine blk_here ?_ | refine blk_past rfl ?_ | refine thn_norm ?_ | refine blk_norm ?_ | refine CW.condT rfl ?_ | refine CW.condF rfl ?_ | (refine hK _ _ ?_; clear hK K))
        have hne1 : ¬ (∃ a, RA = some a ∧ a.block = mb) := by
          rintro ⟨a, ha, e⟩
          have := (hd6.own.in_ ha).1
          rw [e, hd6.tg] at this; cases this
        have hne2 : ¬ (∃ a, RA = some a ∧ a.block = b3) := by
          rintro ⟨a, ha, e⟩
          have := (hd.own.in_ ha).2
          omega
        have dlt : mb < w2.heap.size := hd.blk.lt
        refine CW.held2 19 (fun b => ∃ a, RA = some a ∧ a.block = b) (fun b => b = mb ∨ ∃ a, RA = some a ∧ a.block = b) (.take 0 (.take 1 (.take 2 (.take 3 (.take 4 (.take 5 (.take 6 (.take 8 (.take 9 (.take 11 (.take 12 (.take 13 (.one 7 (.one 10 (.one 14 (.one 15 (.one 16 (.take 17 (.take 18 (.one 19 .nil)))))))))))))))))))) (fun _ h => Or.inr h) rfl (by kernel_rfl) (by kernel_rfl) (fun w7 g7 => ?_)
        repeat (first | refine AL2.autoU (hn := ?_) | refine AL2.auto (hn := ?_) | refine AL2.gskip rfl rfl rfl rfl rfl ?_ | refine AL2.goneSkip rfl rfl rfl rfl rfl rfl ?_ | refine AL2.gskipU rfl rfl rfl rfl rfl ?_ | refine AL2.goneSkipU rfl rfl rfl rfl rfl rfl ?_ | refine AL2.gautoU (hn := ?_) | refine AL2.gauto (hn := ?_) | refine AL2.oauto (hn := ?_))
        first | refine AL2.one rfl rfl rfl ?_ | refine AL2.gone rfl rfl rfl rfl rfl rfl ?_
        refine OpW.buildNone (fun b8 w8 n8 => ?_)
        refine ⟨fun h => h.grow n8.grow, ?_⟩
        repeat (first | refine AL2.autoU (hn := ?_) | refine AL2.auto (hn := ?_) | refine AL2.gskip rfl rfl rfl rfl rfl ?_ | refine AL2.goneSkip rfl rfl rfl rfl rfl rfl ?_ | refine AL2.gskipU rfl rfl rfl rfl rfl ?_ | refine AL2.goneSkipU rfl rfl rfl rfl rfl rfl ?_ | refine AL2.gautoU (hn := ?_) | refine AL2.gauto (hn := ?_) | refine AL2.oauto (hn := ?_))
        first | refine AL2.one rfl rfl rfl ?_ | refine AL2.gone rfl rfl rfl rfl rfl rfl ?_
        refine OpW.appB (w0 := w7) (l := []) (m := bs) rfl rfl rfl rfl rfl rfl (Own.empty n8) ((k26.grow g7).grow n8.grow) n8.grow (by simp; omega) (fun A9 c9 w9 o9 g9 c9' => ?_)
        rw [List.nil_append] at o9 ⊢
        refine ⟨fun h => h.trans c9' (by
          rintro i hi ⟨a, ha, e⟩
          cases ha
          have h7 := n8.fresh
          have h8 := g7.size
          simp only at e
          omega), ?_⟩
        repeat (first | refine AL2.autoU (hn := ?_) | refine AL2.auto (hn := ?_) | refine AL2.gskip rfl rfl rfl rfl rfl ?_ | refine AL2.goneSkip rfl rfl rfl rfl rfl rfl ?_ | refine AL2.gskipU rfl rfl rfl rfl rfl ?_ | refine AL2.goneSkipU rfl rfl rfl rfl rfl rfl ?_ | refine AL2.gautoU (hn := ?_) | refine AL2.gauto (hn := ?_) | refine AL2.oauto (hn := ?_))
        first | refine AL2.one rfl rfl rfl ?_ | refine AL2.gone rfl rfl rfl rfl rfl rfl ?_
        refine OpW.build (cells := #[.string (bstr nm), .slice A9 bs.length c9, .int .i64 bs.length]) rfl rfl ⟨id, ?_⟩
        first | refine AL2.one rfl rfl rfl ?_ | refine AL2.gone rfl rfl rfl rfl rfl rfl ?_
        refine OpW.buildOne (.agg #[.string (bstr nm), .slice A9 bs.length c9, .int .i64 bs.length]) rfl rfl rfl ?_
        intro b11 w11 n11
        refine ⟨fun h => h.grow n11.grow, ?_⟩
        have g69 : Grow w6 w9 := g7.then g9
        have g611 : Grow w6 w11 := g69.then n11.grow
        first | refine AL2.one rfl rfl rfl ?_ | refine AL2.gone rfl rfl rfl rfl rfl rfl ?_
        refine OpW.append (ys := [.string (bstr nm), .slice A9 bs.length c9, .int .i64 bs.length]) rfl rfl rfl (hd6.own.grow g611) (blk_sl_lit (vs := [.string (bstr nm), .slice A9 bs.length c9, .int .i64 bs.length]) n11) rfl (one1 _ rfl) ⟨by show (acc.length + 1) * 48 ≤ _; omega, by show acc.length + 1 ≤ _; omega⟩ (fun RA' rcap' w12 o12 c12 _ => ?_)
        refine ⟨fun h => h.andThen c12, ?_⟩
        repeat (first | refine AL2.autoU (hn := ?_) | refine AL2.auto (hn := ?_) | refine AL2.gskip rfl rfl rfl rfl rfl ?_ | refine AL2.goneSkip rfl rfl rfl rfl rfl rfl ?_ | refine AL2.gskipU rfl rfl rfl rfl rfl ?_ | refine AL2.goneSkipU rfl rfl rfl rfl rfl rfl ?_ | refine AL2.gautoU (hn := ?_) | refine AL2.gauto (hn := ?_) | refine AL2.oauto (hn := ?_))
        refine AL2.last0 rfl rfl ?_
        have hb12 := (hb6.grow g611).keep c12 hne1
        refine OpW.store (v := .slice _ _ _) rfl rfl rfl hb12 rfl (c' := #[_, _, _]) rfl ?_
        intro w13 hp13 hb13
        refine ⟨fun h => (h.mono fun k _ hk => Or.inr hk).andThen (hp13.chg.mono fun k _ hk => Or.inl hk), ?_⟩
        repeat (first | refine AL.nil ?_ | refine AL.auto (hn := ?_) | refine AL.gskip rfl rfl rfl rfl rfl ?_ | refine AL.goneSkip rfl rfl rfl rfl rfl ?_ | refine AL.gauto (hn := ?_) | refine AL.oauto (hn := ?_))
        repeat (first | refine WL.nil ?_ | refine WL.auto (h := ?_) | refine WL.gskip rfl rfl rfl rfl ?_ | refine WL.gauto (h := ?_) | (refine CW.seq ?_; intro K hK) | refine CW.block ?_ | refine CW.region ?_ | refine CW.skip ?_ | refine CW.exit ?_ | refine CW.ret ?_ | (refine thn_ret (K := K) ?_; clear hK K) | refine thn_ret ?_ | refine blk_ret ?_ | (refine thn_exit (K := K) ?_; clear hK K) | refine thn_exit ?_ | refine blk_here ?_ | refine blk_past rfl ?_ | refine thn_norm ?_ | refine blk_norm ?_ | refine CW.condT rfl ?_ | refine CW.condF rfl ?_ | (refine hK _ _ ?_; clear hK K))
        have z6 : w6.heap.size ≤ w7.heap.size := g7.size
        have z7 : w7.heap.size ≤ w9.heap.size := g9.size
        have z10 : w9.heap.size ≤ w11.heap.size := n11.grow.size
        have z26 : w2.heap.size ≤ w6.heap.size := g26.size
        have z2 : w.heap.size ≤ w2.heap.size := g2.size
        have C613 : Chg (fun k => k = mb ∨ ∃ a, RA = some a ∧ a.block = k) w6 w13 := (Grow.chg g611 (c12.mono fun k _ hk => Or.inr hk)).andThen (hp13.chg.mono fun k _ hk => Or.inl hk)
        have lt9 : ∀ a, A9 = some a → w7.heap.size ≤ a.block ∧ a.block < w9.heap.size := fun a ha => ⟨(o9.in_ ha).1, (o9.in_ ha).2⟩
        have o9' := ((o9.grow n11.grow).keep c12 (by
          rintro k hk ⟨a, ha, rfl⟩
          have h7 := (hd6.own.in_ ha).2
          have h8 : w7.heap.size ≤ a.block := hk
          omega)).keep hp13.chg (by
          intro k hk e
          have h8 : w7.heap.size ≤ k := hk
          omega)
        have o12' := o12.keep hp13.chg (by
          rintro k (⟨a, ha, rfl⟩ | hk) e
          · exact hne1 ⟨a, ha, e⟩
          · omega)
        obtain ⟨tag2, ht2, hD⟩ := hd6.snoc (g := ⟨nm, bs, bs.length⟩) (fun b => decide (w9.heap.size ≤ b)) C613 hb13 (o12'.zone fun a ha => by
              rcases (o12'.in_ ha).1 with h7 | h7
              · exact Or.inl h7
              · exact Or.inr ⟨by omega, decide_eq_true (by omega)⟩) (o9'.zone fun a ha => by
            have h7 := lt9 a ha
            exact ⟨by omega, decide_eq_false (by omega)⟩)
        have gw13 : Grow w w13 := (g2.then g26).chgNew C613 (by
          rintro i hi (e | ⟨a, ha, e⟩)
          · omega
          · have := hFA a ha; omega)
        refine hJ (xs.length - (k + 1)) _ _ (by omega) ⟨k + 1, acc ++ [⟨nm, bs, bs.length⟩], tag2, RA', rcap', _, by omega, rfl, ?_, by simp [hal], gw13, fun j hj => ?_, hD, hdb, fun a ha => ?_, rep4 rfl rfl rfl (congrArg (Value.int .i64) (by omega))⟩
        · rw [hgo, loadGo, if_neg (by rw [hrn, hxn]; simp; omega)]
        · rw [ht2 j (by omega)]; exact ht j hj
        · rcases (o12.in_ ha).1 with ⟨a', h7, h8⟩ | h7
          · have := hFA a' h7; omega
          · omega
  · obtain rfl : k = xs.length := by omega
    rw [List.drop_length] at hgo
    repeat (first | refine WL.nil ?_ | refine WL.auto (h := ?_) | refine WL.gskip rfl rfl rfl rfl ?_ | refine WL.gauto (h := ?_) | (refine CW.seq ?_; intro K hK) | refine CW.block ?_ | refine CW.region ?_ | refine CW.skip ?_ | refine CW.exit ?_ | refine CW.ret ?_ | (refine thn_ret (K := K) ?_; clear hK K) | refine thn_ret ?_ | refine blk_ret ?_ | (refine thn_exit (K := K) ?_; clear hK K) | refine thn_exit ?_ | refine blk_here ?_ | refine blk_past rfl ?_ | refine thn_norm ?_ | refine blk_norm ?_ | refine CW.condT rfl ?_ | refine CW.condF rfl ?_ | (refine hK _ _ ?_; clear hK K))
    refine out2 (v1 := .pointer (some ⟨mb, 0, none⟩)) (v2 := .int .i64 0) Try.results36 rfl rfl ⟨g2, ?_⟩ (Or.inr rfl)
    rw [hgo]
    exact ⟨mb, tag', rfl, ht, RA, rcap, rc, hd⟩
end B
end Go.Proofs.Ytlofcomnhecgfaa
