/- Rules and contracts, put together out of smaller texts. Each part tells its conditions. -/
import Derived.Test.YtlofcomnhecgfaaLibE
/- read, settle, records of the document's node. Sizes are bounded. -/
namespace Go.Proofs.Ytlofcomnhecgfaa
namespace B
attribute [local irreducible] OpW WL CW Ret Sl Blk thn blk outOf
set_option linter.unusedVariables false
set_option linter.unusedSimpArgs false
set_option maxRecDepth 4000

/-- What the document's read tells: there only where there is no error. -/
def PD.read2 (d : PD) (s : List UInt8) : List UInt8 × Bool × Int :=
  let r := d.read s
  if r.2 = 50 then ([], false, 0) else (r.1, decide (r.2 = 0), r.2)
theorem read2_read1 (d : PD) (s : List UInt8) : (d.read2 s).1 = (d.read1 s).1 ∧ (d.read2 s).2.2 = (d.read1 s).2.2 ∧ ((d.read1 s).2.2 = 0 → (d.read2 s).2.1 = (d.read1 s).2.1) := by
  unfold PD.read2 PD.read1
  simp only
  split
  · simp
  · simp only [true_and]
    intro h
    exact decide_eq_true h
section
variable {w w' : World} {mb : Nat} {m : PD}
theorem read96 (s : List UInt8) (h : Ret Try.prog 86 #[.pointer (some ⟨mb, 0, none⟩), .string (bstr s)] w fun v w' => Grow w w' ∧ ∃ A cap, v = .tuple #[.slice A (m.read s).1.length cap, .int .i64 (m.read s).2] ∧ Own w' A 5 1 (m.read s).1.length cap (bvs (m.read s).1) (fresh w)) :
    Ret Try.prog 96 #[.pointer (some ⟨mb, 0, none⟩), .string (bstr s)] w fun v w' => Read87 w w' v (m.read2 s) := by
  refine Ret.enter (fn := Try.f96) (N := 21) Try.func96 rfl Try.ntmps96 rfl ?_
  repeat (first | refine WL.nil ?_ | refine WL.auto (h := ?_) | refine WL.gskip rfl rfl rfl rfl ?_ | refine WL.gauto (h := ?_) | (refine CW.seq ?_; intro K hK) | refine CW.block ?_ | refine CW.region ?_ | refine CW.skip ?_ | refine CW.exit ?_ | refine CW.ret ?_ | (refine thn_ret (K := K) ?_; clear hK K) | refine thn_ret ?_ | refine blk_ret ?_ | (refine thn_exit (K := K) ?_; clear hK K) | refine thn_exit ?_ | refine blk_here ?_ | refine blk_past rfl ?_ | refine thn_norm ?_ | refine blk_norm ?_ | refine CW.condT rfl ?_ | refine CW.condF rfl ?_ | (refine hK _ _ ?_; clear hK K))
  first | refine WL.step rfl ?_ | refine WL.gstep rfl rfl rfl rfl ?_
  refine OpW.call (h.mono ?_) rfl
  rintro v w1 ⟨g1, A, cap, rfl, o1⟩
  have e1 : m.read2 s = if (m.read s).2 = 50 then ([], false, 0) else ((m.read s).1, decide ((m.read s).2 = 0), (m.read s).2) := rfl
  generalize m.read s = r at *
  obtain ⟨l, e⟩ := r
  simp only at o1 e1
  repeat (first | refine WL.nil ?_ | refine WL.auto (h := ?_) | refine WL.gskip rfl rfl rfl rfl ?_ | refine WL.gauto (h := ?_) | (refine CW.seq ?_; intro K hK) | refine CW.block ?_ | refine CW.region ?_ | refine CW.skip ?_ | refine CW.exit ?_ | refine CW.ret ?_ | (refine thn_ret (K := K) ?_; clear hK K) | refine thn_ret ?_ | refine blk_ret ?_ | (refine thn_exit (K := K) ?_; clear hK K) | refine thn_exit ?_ | refine blk_here ?_ | refine blk_past rfl ?_ | refine thn_norm ?_ | refine blk_norm ?_ | refine CW.condT rfl ?_ | refine CW.condF rfl ?_ | (refine hK _ _ ?_; clear hK K))
  refine CW.condP rfl (fun h1 => ?_) (fun h1 => ?_)
  · rw [if_pos h1] at e1
    repeat (first | refine WL.nil ?_ | refine WL.auto (h := ?_) | refine WL.gskip rfl rfl rfl rfl ?_ | refine WL.gauto (h := ?_) | (refine CW.seq ?_; intro K hK) | refine CW.block ?_ | refine CW.region ?_ | refine CW.skip ?_ | refine CW.exit ?_ | refine CW.ret ?_ | (refine thn_ret (K := K) ?_; clear hK K) | refine thn_ret ?_ | refine blk_ret ?_ | (refine thn_exit (K := K) ?_; clear hK K) | refine thn_exit ?_ | refine blk_here ?_ | refine blk_past rfl ?_ | refine thn_norm ?_ | refine blk_norm ?_ | refine CW.condT rfl ?_ | refine CW.condF rfl ?_ | (refine hK _ _ ?_; clear hK K))
    refine out3 (v1 := .slice none 0 0) (v2 := .bool false) (v3 := .int .i64 0) Try.results96 rfl rfl rfl ?_ (Or.inr rfl)
    rw [e1]
    exact ⟨none, 0, rfl, Own.nil _ _ _ _, g1⟩
  · rw [if_neg h1] at e1
    repeat (first | refine WL.nil ?_ | refine WL.auto (h := ?_) | refine WL.gskip rfl rfl rfl rfl ?_ | refine WL.gauto (h := ?_) | (refine CW.seq ?_; intro K hK) | refine CW.block ?_ | refine CW.region ?_ | refine CW.skip ?_ | refine CW.exit ?_ | refine CW.ret ?_ | (refine thn_ret (K := K) ?_; clear hK K) | refine thn_ret ?_ | refine blk_ret ?_ | (refine thn_exit (K := K) ?_; clear hK K) | refine thn_exit ?_ | refine blk_here ?_ | refine blk_past rfl ?_ | refine thn_norm ?_ | refine blk_norm ?_ | refine CW.condT rfl ?_ | refine CW.condF rfl ?_ | (refine hK _ _ ?_; clear hK K))
    refine out3 (v1 := .slice A l.length cap) (v2 := .bool (decide (e = 0))) (v3 := .int .i64 e) Try.results96 rfl rfl rfl ?_ (Or.inr rfl)
    rw [e1]
    exact ⟨A, cap, rfl, o1, g1⟩
end

theorem settle98 {X : Nat → Prop} {w : World} {db mb : Nat} {d m : PD} {M : Nat} (h : Two X w db d mb m) (s : List UInt8) (there : Bool) (has n : Nat) (hf : Fit m M) :
    Ret Try.prog 98 #[.pointer (some ⟨mb, 0, none⟩), .string (bstr s), .bool there, .int .i64 has, .int .i64 n] w fun v w' => v = .int .i64 (if there then m.settle s has n else (0, m)).1 ∧ Two X w' db d mb (if there then m.settle s has n else (0, m)).2 ∧ Chg (fun k => ¬ X k) w w' := by
  refine Ret.enter (fn := Try.f98) (N := 27) Try.func98 rfl Try.ntmps98 rfl ?_
  cases there with
  | false =>
    repeat (first | refine WL.nil ?_ | refine WL.auto (h := ?_) | refine WL.gskip rfl rfl rfl rfl ?_ | refine WL.gauto (h := ?_) | (refine CW.seq ?_; intro K hK) | refine CW.block ?_ | refine CW.region ?_ | refine CW.skip ?_ | refine CW.exit ?_ | refine CW.ret ?_ | (refine thn_ret (K := K) ?_; clear hK K) | refine thn_ret ?_ | refine blk_ret ?_ | (refine thn_exit (K := K) ?_; clear hK K) | refine thn_exit ?_ | refine blk_here ?_ | refine blk_past rfl ?_ | refine thn_norm ?_ | refine blk_norm ?_ | refine CW.condT rfl ?_ | refine CW.condF rfl ?_ | (refine hK _ _ ?_; clear hK K))
    exact out1 (v := .int .i64 0) Try.results98 rfl ⟨rfl, h, Chg.refl _ _⟩ (Or.inr rfl)
  | true =>
    simp only [if_true]
    repeat (first | refine WL.nil ?_ | refine WL.auto (h := ?_) | refine WL.gskip rfl rfl rfl rfl ?_ | refine WL.gauto (h := ?_) | (refine CW.seq ?_; intro K hK) | refine CW.block ?_ | refine CW.region ?_ | refine CW.skip ?_ | refine CW.exit ?_ | refine CW.ret ?_ | (refine thn_ret (K := K) ?_; clear hK K) | refine thn_ret ?_ | refine blk_ret ?_ | (refine thn_exit (K := K) ?_; clear hK K) | refine thn_exit ?_ | refine blk_here ?_ | refine blk_past rfl ?_ | refine thn_norm ?_ | refine blk_norm ?_ | refine CW.condT rfl ?_ | refine CW.condF rfl ?_ | (refine hK _ _ ?_; clear hK K))
    by_cases h1 : n < has
    · have e1 : m.settle s has n = if (m.truncate s n).1 ≠ 0 then m.truncate s n else (m.truncate s n).2.sync s := by unfold PD.settle; rw [if_pos h1]
      rw [decide_eq_true (p := (n : Int) < (has : Int)) (by omega)]
      repeat (first | refine WL.nil ?_ | refine WL.auto (h := ?_) | refine WL.gskip rfl rfl rfl rfl ?_ | refine WL.gauto (h := ?_) | (refine CW.seq ?_; intro K hK) | refine CW.block ?_ | refine CW.region ?_ | refine CW.skip ?_ | refine CW.exit ?_ | refine CW.ret ?_ | (refine thn_ret (K := K) ?_; clear hK K) | refine thn_ret ?_ | refine blk_ret ?_ | (refine thn_exit (K := K) ?_; clear hK K) | refine thn_exit ?_ | refine blk_here ?_ | refine blk_past rfl ?_ | refine thn_norm ?_ | refine blk_norm ?_ | refine CW.condT rfl ?_ | refine CW.condF rfl ?_ | (refine hK _ _ ?_; clear hK K))
      first | refine WL.step rfl ?_ | refine WL.gstep rfl rfl rfl rfl ?_
      refine OpW.call ((truncateTM h s n hf).mono ?_) rfl
      rintro v w1 ⟨rfl, h2, c2⟩
      have hf2 := hf.truncate s n
      generalize m.truncate s n = r at *
      obtain ⟨e, d2⟩ := r
      simp only at h2 e1 hf2
      repeat (first | refine WL.nil ?_ | refine WL.auto (h := ?_) | refine WL.gskip rfl rfl rfl rfl ?_ | refine WL.gauto (h := ?_) | (refine CW.seq ?_; intro K hK) | refine CW.block ?_ | refine CW.region ?_ | refine CW.skip ?_ | refine CW.exit ?_ | refine CW.ret ?_ | (refine thn_ret (K := K) ?_; clear hK K) | refine thn_ret ?_ | refine blk_ret ?_ | (refine thn_exit (K := K) ?_; clear hK K) | refine thn_exit ?_ | refine blk_here ?_ | refine blk_past rfl ?_ | refine thn_norm ?_ | refine blk_norm ?_ | refine CW.condT rfl ?_ | refine CW.condF rfl ?_ | (refine hK _ _ ?_; clear hK K))
      refine CW.condP rfl (fun h3 => ?_) (fun h3 => ?_)
      · rw [if_pos h3] at e1
        repeat (first | refine WL.nil ?_ | refine WL.auto (h := ?_) | refine WL.gskip rfl rfl rfl rfl ?_ | refine WL.gauto (h := ?_) | (refine CW.seq ?_; intro K hK) | refine CW.block ?_ | refine CW.region ?_ | refine CW.skip ?_ | refine CW.exit ?_ | refine CW.ret ?_ | (refine thn_ret (K := K) ?_; clear hK K) | refine thn_ret ?_ | refine blk_ret ?_ | (refine thn_exit (K := K) ?_; clear hK K) | refine thn_exit ?_ | refine blk_here ?_ | refine blk_past rfl ?_ | refine thn_norm ?_ | refine blk_norm ?_ | refine CW.condT rfl ?_ | refine CW.condF rfl ?_ | (refine hK _ _ ?_; clear hK K))
        refine out1 (v := .int .i64 e) Try.results98 rfl ?_ (Or.inr rfl)
        rw [e1]
        exact ⟨rfl, h2, c2⟩
      · rw [if_neg h3] at e1
        repeat (first | refine WL.nil ?_ | refine WL.auto (h := ?_) | refine WL.gskip rfl rfl rfl rfl ?_ | refine WL.gauto (h := ?_) | (refine CW.seq ?_; intro K hK) | refine CW.block ?_ | refine CW.region ?_ | refine CW.skip ?_ | refine CW.exit ?_ | refine CW.ret ?_ | (refine thn_ret (K := K) ?_; clear hK K) | refine thn_ret ?_ | refine blk_ret ?_ | (refine thn_exit (K := K) ?_; clear hK K) | refine thn_exit ?_ | refine blk_here ?_ | refine blk_past rfl ?_ | refine thn_norm ?_ | refine blk_norm ?_ | refine CW.condT rfl ?_ | refine CW.condF rfl ?_ | (refine hK _ _ ?_; clear hK K))
        first | refine WL.step rfl ?_ | refine WL.gstep rfl rfl rfl rfl ?_
        refine OpW.call ((syncTM h2 s hf2).mono ?_) rfl
        rintro v w2 ⟨rfl, h4, c4⟩
        repeat (first | refine WL.nil ?_ | refine WL.auto (h := ?_) | refine WL.gskip rfl rfl rfl rfl ?_ | refine WL.gauto (h := ?_) | (refine CW.seq ?_; intro K hK) | refine CW.block ?_ | refine CW.region ?_ | refine CW.skip ?_ | refine CW.exit ?_ | refine CW.ret ?_ | (refine thn_ret (K := K) ?_; clear hK K) | refine thn_ret ?_ | refine blk_ret ?_ | (refine thn_exit (K := K) ?_; clear hK K) | refine thn_exit ?_ | refine blk_here ?_ | refine blk_past rfl ?_ | refine thn_norm ?_ | refine blk_norm ?_ | refine CW.condT rfl ?_ | refine CW.condF rfl ?_ | (refine hK _ _ ?_; clear hK K))
        refine out1 (v := .int .i64 (d2.sync s).1) Try.results98 rfl ?_ (Or.inr rfl)
        rw [e1]
        exact ⟨rfl, h4, c2.andThen c4⟩
    · have e1 : m.settle s has n = m.sync s := by unfold PD.settle; rw [if_neg h1]
      rw [decide_eq_false (p := (n : Int) < (has : Int)) (by omega)]
      repeat (first | refine WL.nil ?_ | refine WL.auto (h := ?_) | refine WL.gskip rfl rfl rfl rfl ?_ | refine WL.gauto (h := ?_) | (refine CW.seq ?_; intro K hK) | refine CW.block ?_ | refine CW.region ?_ | refine CW.skip ?_ | refine CW.exit ?_ | refine CW.ret ?_ | (refine thn_ret (K := K) ?_; clear hK K) | refine thn_ret ?_ | refine blk_ret ?_ | (refine thn_exit (K := K) ?_; clear hK K) | refine thn_exit ?_ | refine blk_here ?_ | refine blk_past rfl ?_ | refine thn_norm ?_ | refine blk_norm ?_ | refine CW.condT rfl ?_ | refine CW.condF rfl ?_ | (refine hK _ _ ?_; clear hK K))
      first | refine WL.step rfl ?_ | refine WL.gstep rfl rfl rfl rfl ?_
      refine OpW.call ((syncTM h s hf).mono ?_) rfl
      rintro v w2 ⟨rfl, h4, c4⟩
      repeat (first | refine WL.nil ?_ | refine WL.auto (h := ?_) | refine WL.gskip rfl rfl rfl rfl ?_ | refine WL.gauto (h := ?_) | (refine CW.seq ?_; intro K hK) | refine CW.block ?_ | refine CW.region ?_ | refine CW.skip ?_ | refine CW.exit ?_ | refine CW.ret ?_ | (refine thn_ret (K := K) ?_; clear hK K) | refine thn_ret ?_ | refine blk_ret ?_ | (refine thn_exit (K := K) ?_; clear hK K) | refine thn_exit ?_ | refine blk_here ?_ | refine blk_past rfl ?_ | refine thn_norm ?_ | refine blk_norm ?_ | refine CW.condT rfl ?_ | refine CW.condF rfl ?_ | (refine hK _ _ ?_; clear hK K))
      refine out1 (v := .int .i64 (m.sync s).1) Try.results98 rfl ?_ (Or.inr rfl)
      rw [e1]
      exact ⟨rfl, h4, c4⟩

/-- What records hands back. -/
def Recs97 (w w' : World) (v : Value) (len : Nat) : Option (List (List UInt8) × List UInt8) → Prop
  | none => v = .tuple #[.slice none 0 0, .int .i64 0, .bool false]
  | some p => ∃ RA rcap, v = .tuple #[.slice RA p.1.length rcap, .int .i64 ((len - p.2.length : Nat) : Int), .bool true] ∧ RecRows w' RA rcap p.1 w.heap.size w'.heap.size
theorem cutN_drop {b : List UInt8} : ∀ {n : Nat} {p : List (List UInt8) × List UInt8}, cutN b n = some p → p.2 = b.drop (b.length - p.2.length) := by
  intro n
  induction n with
  | zero => intro p h; cases h; simp
  | succ n ih =>
    intro p h
    rw [cutN] at h
    cases hc : cutN b n with
    | none => rw [hc] at h; cases h
    | some p' =>
      rw [hc] at h
      simp only at h
      cases hq : cutOne p'.2 with
      | none => rw [hq] at h; cases h
      | some q =>
        rw [hq] at h
        cases h
        have h1 := ih hc
        have h2 := (cutN_len hc).2.1
        have h3 := cutOne_len hq
        unfold cutOne at hq
        split at hq
        · cases hq
        · split at hq
          · cases hq
          · cases hq
            obtain ⟨p1, rest⟩ := p'
            simp only at h1 h2 h3 ⊢
            simp only [List.length_drop, List.length_take] at h3 ⊢
            generalize numOf (rest.take 8) = q at *
            generalize hr : rest.length = rl at *
            rw [h1, List.drop_drop]
            congr 1
            omega
theorem records97 (A : Option Addr) (cap : Nat) (b : List UInt8) (n : Nat) (w : World) (hs : Sl w A (bvs b)) (hl : b.length ≤ 68719476736) (hc : b.length ≤ cap) (hA : ∀ a, A = some a → a.block < w.heap.size ∧ a.spot = none) (hn : n ≤ 68719476736) :
    Ret Try.prog 97 #[.slice A b.length cap, .int .i64 n] w fun v w' => Recs97 w w' v b.length (cutN b n) ∧ Grow w w' := by
  have hsp : ∀ a, A = some a → a.spot = none := fun a ha => (hA a ha).2
  refine Ret.enter (fn := Try.f97) (N := 54) Try.func97 rfl Try.ntmps97 rfl ?_
  repeat (first | refine WL.nil ?_ | refine WL.auto (h := ?_) | refine WL.gskip rfl rfl rfl rfl ?_ | refine WL.gauto (h := ?_) | (refine CW.seq ?_; intro K hK) | refine CW.block ?_ | refine CW.region ?_ | refine CW.skip ?_ | refine CW.exit ?_ | refine CW.ret ?_ | (refine thn_ret (K := K) ?_; clear hK K) | refine thn_ret ?_ | refine blk_ret ?_ | (refine thn_exit (K := K) ?_; clear hK K) | refine thn_exit ?_ | refine blk_here ?_ | refine blk_past rfl ?_ | refine thn_norm ?_ | refine blk_norm ?_ | refine CW.condT rfl ?_ | refine CW.condF rfl ?_ | (refine hK _ _ ?_; clear hK K))
  refine CW.loop (fun n' e w6 => ∃ (k : Nat) (rs : List (List UInt8)) (rest : List UInt8) (RA : Option Addr) (rcap : Nat), k ≤ n ∧ n' = n - k ∧ cutN b k = some (rs, rest) ∧ RecRows w6 RA rcap rs w.heap.size w6.heap.size ∧ Grow w w6 ∧
    ∃ e0, e = upd (upd (upd (upd (upd e0 0 (.slice A b.length cap)) 1 (.int .i64 n)) 7 (.slice RA rs.length rcap)) 8 (.int .i64 ((b.length - rest.length : Nat) : Int))) 9 (.int .i64 k)) n ?_ ?_
  · exact ⟨0, [], b, none, 0, by omega, rfl, rfl, RecRows.nil _ _ _, Chg.refl _ _, rep5 rfl rfl rfl (congrArg (Value.int .i64) (by omega)) rfl⟩
  rintro n' e w6 ⟨k, rs, rest, RA, rcap, hk, rfl, hcut, hrec, g6, e0', rfl⟩ KJ hJ
  have hrl := cutN_len hcut
  simp only at hrl
  have hdr := cutN_drop hcut
  simp only at hdr
  repeat (first | refine WL.nil ?_ | refine WL.auto (h := ?_) | refine WL.gskip rfl rfl rfl rfl ?_ | refine WL.gauto (h := ?_) | (refine CW.seq ?_; intro K hK) | refine CW.block ?_ | refine CW.region ?_ | refine CW.skip ?_ | refine CW.exit ?_ | refine CW.ret ?_ | (refine thn_ret (K := K) ?_; clear hK K) | refine thn_ret ?_ | refine blk_ret ?_ | (refine thn_exit (K := K) ?_; clear hK K) | refine thn_exit ?_ | refine blk_here ?_ | refine blk_past rfl ?_ | refine thn_norm ?_ | refine blk_norm ?_ | refine CW.condT rfl ?_ | refine CW.condF rfl ?_ | (refine hK _ _ ?_; clear hK K))
  refine CW.condP rfl (fun hc1 => ?_) (fun hc1 => ?_)
  · have hkl : k < n := by omega
    have hs6 := hs.grow g6
    have hat : b.length - rest.length ≤ b.length := by omega
    have hrestl : b.length - (b.length - rest.length) = rest.length := by omega
    have hpart := sl_part (m := b.length - rest.length) hs6 hsp hc
    rw [← hdr] at hpart
    repeat (first | refine WL.nil ?_ | refine WL.auto (h := ?_) | refine WL.gskip rfl rfl rfl rfl ?_ | refine WL.gauto (h := ?_) | (refine CW.seq ?_; intro K hK) | refine CW.block ?_ | refine CW.region ?_ | refine CW.skip ?_ | refine CW.exit ?_ | refine CW.ret ?_ | (refine thn_ret (K := K) ?_; clear hK K) | refine thn_ret ?_ | refine blk_ret ?_ | (refine thn_exit (K := K) ?_; clear hK K) | refine thn_exit ?_ | refine blk_here ?_ | refine blk_past rfl ?_ | refine thn_norm ?_ | refine blk_norm ?_ | refine CW.condT rfl ?_ | refine CW.condF rfl ?_ | (refine hK _ _ ?_; clear hK K))
    first | refine WL.step rfl ?_ | refine WL.gstep rfl rfl rfl rfl ?_
    refine OpW.sliceLoE (b.length - rest.length) rfl rfl rfl hat hsp ?_
    rw [hrestl]
    repeat (first | refine WL.nil ?_ | refine WL.auto (h := ?_) | refine WL.gskip rfl rfl rfl rfl ?_ | refine WL.gauto (h := ?_) | (refine CW.seq ?_; intro K hK) | refine CW.block ?_ | refine CW.region ?_ | refine CW.skip ?_ | refine CW.exit ?_ | refine CW.ret ?_ | (refine thn_ret (K := K) ?_; clear hK K) | refine thn_ret ?_ | refine blk_ret ?_ | (refine thn_exit (K := K) ?_; clear hK K) | refine thn_exit ?_ | refine blk_here ?_ | refine blk_past rfl ?_ | refine thn_norm ?_ | refine blk_norm ?_ | refine CW.condT rfl ?_ | refine CW.condF rfl ?_ | (refine hK _ _ ?_; clear hK K))
    first | refine WL.step rfl ?_ | refine WL.gstep rfl rfl rfl rfl ?_
    refine OpW.call ((open50 _ _ rest w6 hpart (by omega)).mono ?_) rfl
    rintro v w7 ⟨rb, rfl, hr7, g7, hrb⟩
    repeat (first | refine WL.nil ?_ | refine WL.auto (h := ?_) | refine WL.gskip rfl rfl rfl rfl ?_ | refine WL.gauto (h := ?_) | (refine CW.seq ?_; intro K hK) | refine CW.block ?_ | refine CW.region ?_ | refine CW.skip ?_ | refine CW.exit ?_ | refine CW.ret ?_ | (refine thn_ret (K := K) ?_; clear hK K) | refine thn_ret ?_ | refine blk_ret ?_ | (refine thn_exit (K := K) ?_; clear hK K) | refine thn_exit ?_ | refine blk_here ?_ | refine blk_past rfl ?_ | refine thn_norm ?_ | refine blk_norm ?_ | refine CW.condT rfl ?_ | refine CW.condF rfl ?_ | (refine hK _ _ ?_; clear hK K))
    first | refine WL.step rfl ?_ | refine WL.gstep rfl rfl rfl rfl ?_
    refine OpW.call ((N77 rb _ _ w7 hr7).mono ?_) rfl
    rintro v w8 ⟨rfl, hr8, c8⟩
    have g8 : Grow w6 w8 := g7.chgNew c8 (fun i hi e => by omega)
    by_cases h8 : rest.length < 8
    · have e1 : rN (rest, 0) = (0, (rest, 20)) := by unfold rN; rw [rNum_short (by omega)]; rfl
      rw [e1] at hr8 ⊢
      have hno : cutN b n = none := cutN_none (n := k + 1) (by rw [cutN, hcut]; simp only; rw [show cutOne rest = none from by unfold cutOne; rw [if_pos h8]]) (by omega)
      repeat (first | refine WL.nil ?_ | refine WL.auto (h := ?_) | refine WL.gskip rfl rfl rfl rfl ?_ | refine WL.gauto (h := ?_) | (refine CW.seq ?_; intro K hK) | refine CW.block ?_ | refine CW.region ?_ | refine CW.skip ?_ | refine CW.exit ?_ | refine CW.ret ?_ | (refine thn_ret (K := K) ?_; clear hK K) | refine thn_ret ?_ | refine blk_ret ?_ | (refine thn_exit (K := K) ?_; clear hK K) | refine thn_exit ?_ | refine blk_here ?_ | refine blk_past rfl ?_ | refine thn_norm ?_ | refine blk_norm ?_ | refine CW.condT rfl ?_ | refine CW.condF rfl ?_ | (refine hK _ _ ?_; clear hK K))
      first | refine WL.step rfl ?_ | refine WL.gstep rfl rfl rfl rfl ?_
      refine OpW.call ((Err82 rb _ _ w8 hr8).mono ?_) rfl
      rintro v w9 ⟨rfl, g9⟩
      repeat (first | refine WL.nil ?_ | refine WL.auto (h := ?_) | refine WL.gskip rfl rfl rfl rfl ?_ | refine WL.gauto (h := ?_) | (refine CW.seq ?_; intro K hK) | refine CW.block ?_ | refine CW.region ?_ | refine CW.skip ?_ | refine CW.exit ?_ | refine CW.ret ?_ | (refine thn_ret (K := K) ?_; clear hK K) | refine thn_ret ?_ | refine blk_ret ?_ | (refine thn_exit (K := K) ?_; clear hK K) | refine thn_exit ?_ | refine blk_here ?_ | refine blk_past rfl ?_ | refine thn_norm ?_ | refine blk_norm ?_ | refine CW.condT rfl ?_ | refine CW.condF rfl ?_ | (refine hK _ _ ?_; clear hK K))
      refine out3 (v1 := .slice none 0 0) (v2 := .int .i64 0) (v3 := .bool false) Try.results97 rfl rfl rfl ⟨?_, g6.then (g8.then g9)⟩ (Or.inr rfl)
      rw [hno]
      exact rfl
    · have e1 : rN (rest, 0) = (numOf (rest.take 8), (rest.drop 8, 0)) := by unfold rN; rw [rNum_good (by omega)]; rfl
      rw [e1] at hr8 ⊢
      have hdl : (rest.drop 8).length = rest.length - 8 := by simp
      have hcut1 : cutOne rest = if rest.length - 8 < numOf (rest.take 8) then none else some ((rest.drop 8).take (numOf (rest.take 8)), rest.drop (8 + numOf (rest.take 8))) := by unfold cutOne; rw [if_neg h8]
      have hlt := numOf_lt (rest.take 8)
      rw [show (rest.take 8).length = 8 from by simp; omega] at hlt
      generalize numOf (rest.take 8) = q at *
      repeat (first | refine WL.nil ?_ | refine WL.auto (h := ?_) | refine WL.gskip rfl rfl rfl rfl ?_ | refine WL.gauto (h := ?_) | (refine CW.seq ?_; intro K hK) | refine CW.block ?_ | refine CW.region ?_ | refine CW.skip ?_ | refine CW.exit ?_ | refine CW.ret ?_ | (refine thn_ret (K := K) ?_; clear hK K) | refine thn_ret ?_ | refine blk_ret ?_ | (refine thn_exit (K := K) ?_; clear hK K) | refine thn_exit ?_ | refine blk_here ?_ | refine blk_past rfl ?_ | refine thn_norm ?_ | refine blk_norm ?_ | refine CW.condT rfl ?_ | refine CW.condF rfl ?_ | (refine hK _ _ ?_; clear hK K))
      first | refine WL.step rfl ?_ | refine WL.gstep rfl rfl rfl rfl ?_
      refine OpW.call ((Err82 rb _ _ w8 hr8).mono ?_) rfl
      rintro v w9 ⟨rfl, g9⟩
      repeat (first | refine WL.nil ?_ | refine WL.auto (h := ?_) | refine WL.gskip rfl rfl rfl rfl ?_ | refine WL.gauto (h := ?_) | (refine CW.seq ?_; intro K hK) | refine CW.block ?_ | refine CW.region ?_ | refine CW.skip ?_ | refine CW.exit ?_ | refine CW.ret ?_ | (refine thn_ret (K := K) ?_; clear hK K) | refine thn_ret ?_ | refine blk_ret ?_ | (refine thn_exit (K := K) ?_; clear hK K) | refine thn_exit ?_ | refine blk_here ?_ | refine blk_past rfl ?_ | refine thn_norm ?_ | refine blk_norm ?_ | refine CW.condT rfl ?_ | refine CW.condF rfl ?_ | (refine hK _ _ ?_; clear hK K))
      first | refine WL.step rfl ?_ | refine WL.gstep rfl rfl rfl rfl ?_
      refine OpW.call ((Left52 rb _ _ w9 (hr8.grow g9)).mono ?_) rfl
      rintro v w10 ⟨rfl, g10⟩
      rw [hdl]
      have g610 := g8.then (g9.then g10)
      repeat (first | refine WL.nil ?_ | refine WL.auto (h := ?_) | refine WL.gskip rfl rfl rfl rfl ?_ | refine WL.gauto (h := ?_) | (refine CW.seq ?_; intro K hK) | refine CW.block ?_ | refine CW.region ?_ | refine CW.skip ?_ | refine CW.exit ?_ | refine CW.ret ?_ | (refine thn_ret (K := K) ?_; clear hK K) | refine thn_ret ?_ | refine blk_ret ?_ | (refine thn_exit (K := K) ?_; clear hK K) | refine thn_exit ?_ | refine blk_here ?_ | refine blk_past rfl ?_ | refine thn_norm ?_ | refine blk_norm ?_ | refine CW.condT rfl ?_ | refine CW.condF rfl ?_ | (refine hK _ _ ?_; clear hK K))
      refine CW.condP rfl (fun h1 => ?_) (fun h1 => ?_)
      · rw [if_pos (by simp only at h1; omega)] at hcut1
        have hno : cutN b n = none := cutN_none (n := k + 1) (by rw [cutN, hcut]; simp only; rw [hcut1]) (by omega)
        repeat (first | refine WL.nil ?_ | refine WL.auto (h := ?_) | refine WL.gskip rfl rfl rfl rfl ?_ | refine WL.gauto (h := ?_) | (refine CW.seq ?_; intro K hK) | refine CW.block ?_ | refine CW.region ?_ | refine CW.skip ?_ | refine CW.exit ?_ | refine CW.ret ?_ | (refine thn_ret (K := K) ?_; clear hK K) | refine thn_ret ?_ | refine blk_ret ?_ | (refine thn_exit (K := K) ?_; clear hK K) | refine thn_exit ?_ | refine blk_here ?_ | refine blk_past rfl ?_ | refine thn_norm ?_ | refine blk_norm ?_ | refine CW.condT rfl ?_ | refine CW.condF rfl ?_ | (refine hK _ _ ?_; clear hK K))
        refine out3 (v1 := .slice none 0 0) (v2 := .int .i64 0) (v3 := .bool false) Try.results97 rfl rfl rfl ⟨?_, g6.then g610⟩ (Or.inr rfl)
        rw [hno]
        exact rfl
      · have hq : q ≤ rest.length - 8 := by simp only at h1; omega
        rw [if_neg (by omega)] at hcut1
        have hcut' : cutN b (k + 1) = some (rs ++ [(rest.drop 8).take q], rest.drop (8 + q)) := by rw [cutN, hcut]; simp only; rw [hcut1]
        obtain ⟨cells, col, hr6⟩ := hrec
        have hr10 := (hr6.keep g610 fun _ _ _ hf => hf).upto g610.size
        have hql : ((rest.drop 8).take q).length = q := by simp; omega
        have hsq : Sl w10 (if cap = b.length - rest.length + 8 then A else at_ A ((b.length - rest.length + 8) * 1)) (bvs ((rest.drop 8).take q)) := by
          have h7 := (sl_part (m := b.length - rest.length + 8) (hs6.grow g610) hsp hc).take q
          rw [bvs_take, ← List.drop_drop, ← hdr] at h7
          exact h7
        repeat (first | refine WL.nil ?_ | refine WL.auto (h := ?_) | refine WL.gskip rfl rfl rfl rfl ?_ | refine WL.gauto (h := ?_) | (refine CW.seq ?_; intro K hK) | refine CW.block ?_ | refine CW.region ?_ | refine CW.skip ?_ | refine CW.exit ?_ | refine CW.ret ?_ | (refine thn_ret (K := K) ?_; clear hK K) | refine thn_ret ?_ | refine blk_ret ?_ | (refine thn_exit (K := K) ?_; clear hK K) | refine thn_exit ?_ | refine blk_here ?_ | refine blk_past rfl ?_ | refine thn_norm ?_ | refine blk_norm ?_ | refine CW.condT rfl ?_ | refine CW.condF rfl ?_ | (refine hK _ _ ?_; clear hK K))
        first | refine WL.step rfl ?_ | refine WL.gstep rfl rfl rfl rfl ?_
        refine OpW.buildNone (fun b11 w11 n11 => ?_)
        repeat (first | refine WL.nil ?_ | refine WL.auto (h := ?_) | refine WL.gskip rfl rfl rfl rfl ?_ | refine WL.gauto (h := ?_) | (refine CW.seq ?_; intro K hK) | refine CW.block ?_ | refine CW.region ?_ | refine CW.skip ?_ | refine CW.exit ?_ | refine CW.ret ?_ | (refine thn_ret (K := K) ?_; clear hK K) | refine thn_ret ?_ | refine blk_ret ?_ | (refine thn_exit (K := K) ?_; clear hK K) | refine thn_exit ?_ | refine blk_here ?_ | refine blk_past rfl ?_ | refine thn_norm ?_ | refine blk_norm ?_ | refine CW.condT rfl ?_ | refine CW.condF rfl ?_ | (refine hK _ _ ?_; clear hK K))
        first | refine WL.step rfl ?_ | refine WL.gstep rfl rfl rfl rfl ?_
        refine OpW.sliceLoHiE (b.length - rest.length + 8) (b.length - rest.length + 8 + q) rfl rfl (by omega) rfl (by simp only; omega) (by omega) (by omega) hsp ?_
        repeat (first | refine WL.nil ?_ | refine WL.auto (h := ?_) | refine WL.gskip rfl rfl rfl rfl ?_ | refine WL.gauto (h := ?_) | (refine CW.seq ?_; intro K hK) | refine CW.block ?_ | refine CW.region ?_ | refine CW.skip ?_ | refine CW.exit ?_ | refine CW.ret ?_ | (refine thn_ret (K := K) ?_; clear hK K) | refine thn_ret ?_ | refine blk_ret ?_ | (refine thn_exit (K := K) ?_; clear hK K) | refine thn_exit ?_ | refine blk_here ?_ | refine blk_past rfl ?_ | refine thn_norm ?_ | refine blk_norm ?_ | refine CW.condT rfl ?_ | refine CW.condF rfl ?_ | (refine hK _ _ ?_; clear hK K))
        first | refine WL.step rfl ?_ | refine WL.gstep rfl rfl rfl rfl ?_
        refine OpW.appB (w0 := w10) (l := []) (m := (rest.drop 8).take q) rfl rfl rfl rfl (by rw [hql]; omega) rfl (Own.empty n11) (hsq.grow n11.grow) n11.grow (by simp; omega) (fun A12 c12 w12 o12 g12 _ => ?_)
        rw [List.nil_append] at o12 ⊢
        have hrl2 : (rest.drop (8 + q)).length = rest.length - (8 + q) := by simp
        repeat (first | refine WL.nil ?_ | refine WL.auto (h := ?_) | refine WL.gskip rfl rfl rfl rfl ?_ | refine WL.gauto (h := ?_) | (refine CW.seq ?_; intro K hK) | refine CW.block ?_ | refine CW.region ?_ | refine CW.skip ?_ | refine CW.exit ?_ | refine CW.ret ?_ | (refine thn_ret (K := K) ?_; clear hK K) | refine thn_ret ?_ | refine blk_ret ?_ | (refine thn_exit (K := K) ?_; clear hK K) | refine thn_exit ?_ | refine blk_here ?_ | refine blk_past rfl ?_ | refine thn_norm ?_ | refine blk_norm ?_ | refine CW.condT rfl ?_ | refine CW.condF rfl ?_ | (refine hK _ _ ?_; clear hK K))
        first | refine WL.step rfl ?_ | refine WL.gstep rfl rfl rfl rfl ?_
        refine OpW.buildLit [.slice A12 ((rest.drop 8).take q).length c12] rfl rfl rfl (lit1 _ rfl) ?_
        intro b13 w13 n13
        repeat (first | refine WL.nil ?_ | refine WL.auto (h := ?_) | refine WL.gskip rfl rfl rfl rfl ?_ | refine WL.gauto (h := ?_) | (refine CW.seq ?_; intro K hK) | refine CW.block ?_ | refine CW.region ?_ | refine CW.skip ?_ | refine CW.exit ?_ | refine CW.ret ?_ | (refine thn_ret (K := K) ?_; clear hK K) | refine thn_ret ?_ | refine blk_ret ?_ | (refine thn_exit (K := K) ?_; clear hK K) | refine thn_exit ?_ | refine blk_here ?_ | refine blk_past rfl ?_ | refine thn_norm ?_ | refine blk_norm ?_ | refine CW.condT rfl ?_ | refine CW.condF rfl ?_ | (refine hK _ _ ?_; clear hK K))
        first | refine WL.step rfl ?_ | refine WL.gstep rfl rfl rfl rfl ?_
        refine OpW.append (ys := [.slice A12 ((rest.drop 8).take q).length c12]) rfl rfl rfl (hr10.1.grow (g12.then n13.grow)) (blk_sl_lit n13) rfl (one1 _ rfl) ⟨by omega, by omega⟩ (fun RA' rcap' w14 o14 c14 _ => ?_)
        have hrec' := hr10.snoc (g6.then g610).size g12 o12 n13.grow (o14.mono fun b hb => hb) c14
        have ra : ∀ a, RA = some a → w.heap.size ≤ a.block := fun a ha => (hr10.1.in_ ha).1.1
        have g14 : Grow w w14 := ((g6.then g610).then (g12.then n13.grow)).chgNew c14 (by rintro i hi ⟨a, ha, e⟩; have := ra a ha; omega)
        repeat (first | refine WL.nil ?_ | refine WL.auto (h := ?_) | refine WL.gskip rfl rfl rfl rfl ?_ | refine WL.gauto (h := ?_) | (refine CW.seq ?_; intro K hK) | refine CW.block ?_ | refine CW.region ?_ | refine CW.skip ?_ | refine CW.exit ?_ | refine CW.ret ?_ | (refine thn_ret (K := K) ?_; clear hK K) | refine thn_ret ?_ | refine blk_ret ?_ | (refine thn_exit (K := K) ?_; clear hK K) | refine thn_exit ?_ | refine blk_here ?_ | refine blk_past rfl ?_ | refine thn_norm ?_ | refine blk_norm ?_ | refine CW.condT rfl ?_ | refine CW.condF rfl ?_ | (refine hK _ _ ?_; clear hK K))
        exact hJ (n - (k + 1)) _ _ (by omega) ⟨k + 1, rs ++ [(rest.drop 8).take q], rest.drop (8 + q), RA', rcap', by omega, rfl, hcut', hrec', g14, rep5 rfl rfl (congrArg (fun n => Value.slice RA' n rcap') (by simp)) (congrArg (Value.int .i64) (by rw [hrl2]; simp only; omega)) (congrArg (Value.int .i64) (by omega))⟩
  · obtain rfl : k = n := by omega
    repeat (first | refine WL.nil ?_ | refine WL.auto (h := ?_) | refine WL.gskip rfl rfl rfl rfl ?_ | refine WL.gauto (h := ?_) | (refine CW.seq ?_; intro K hK) | refine CW.block ?_ | refine CW.region ?_ | refine CW.skip ?_ | refine CW.exit ?_ | refine CW.ret ?_ | (refine thn_ret (K := K) ?_; clear hK K) | refine thn_ret ?_ | refine blk_ret ?_ | (refine thn_exit (K := K) ?_; clear hK K) | refine thn_exit ?_ | refine blk_here ?_ | refine blk_past rfl ?_ | refine thn_norm ?_ | refine blk_norm ?_ | refine CW.condT rfl ?_ | refine CW.condF rfl ?_ | (refine hK _ _ ?_; clear hK K))
    refine out3 (v1 := .slice RA rs.length rcap) (v2 := .int .i64 ((b.length - rest.length : Nat) : Int)) (v3 := .bool true) Try.results97 rfl rfl rfl ⟨?_, g6⟩ (Or.inr rfl)
    rw [hcut]
    exact ⟨RA, rcap, rfl, hrec⟩
end B
end Go.Proofs.Ytlofcomnhecgfaa
/- Open of the document's node. Sizes are bounded. -/
namespace Go.Proofs.Ytlofcomnhecgfaa
namespace B
attribute [local irreducible] OpW WL CW Ret Sl Blk thn blk outOf
set_option linter.unusedVariables false
set_option linter.unusedSimpArgs false
set_option maxRecDepth 4000

/-- The document's node. -/
def IsNodeM (w : World) (nb mb c : Nat) (s : Bool) : Prop := Blk w nb #[.pointer (some ⟨mb, 0, none⟩), .int .i64 (c : Int), .bool s] 96
/-- Open over what the document's read tells. -/
def PD.nopen2 (d : PD) : Option (List (List UInt8)) × Int × PD :=
  if (d.read2 sMarks).2.2 ≠ 0 then (none, (d.read2 sMarks).2.2, d) else if (d.read2 sLog).2.2 ≠ 0 then (none, (d.read2 sLog).2.2, d) else
      match cutN (d.read2 sLog).1 (ones (d.read2 sMarks).1) with
      | none => (none, 52, d)
      | some p => if (d.settled (d.read2 sMarks) (d.read2 sLog) (ones (d.read2 sMarks).1) p.2).1 ≠ 0 then (none, (d.settled (d.read2 sMarks) (d.read2 sLog) (ones (d.read2 sMarks).1) p.2).1, (d.settled (d.read2 sMarks) (d.read2 sLog) (ones (d.read2 sMarks).1) p.2).2) else (some p.1, 0, (d.settled (d.read2 sMarks) (d.read2 sLog) (ones (d.read2 sMarks).1) p.2).2)
theorem nopen2_eq (d : PD) : d.nopen2 = d.nopen := by
  have e0 : d.nopen = if (d.read1 sMarks).2.2 ≠ 0 then (none, (d.read1 sMarks).2.2, d) else if (d.read1 sLog).2.2 ≠ 0 then (none, (d.read1 sLog).2.2, d) else
      match cutN (d.read1 sLog).1 (ones (d.read1 sMarks).1) with
      | none => (none, 52, d)
      | some p => if (d.settled (d.read1 sMarks) (d.read1 sLog) (ones (d.read1 sMarks).1) p.2).1 ≠ 0 then (none, (d.settled (d.read1 sMarks) (d.read1 sLog) (ones (d.read1 sMarks).1) p.2).1, (d.settled (d.read1 sMarks) (d.read1 sLog) (ones (d.read1 sMarks).1) p.2).2) else (some p.1, 0, (d.settled (d.read1 sMarks) (d.read1 sLog) (ones (d.read1 sMarks).1) p.2).2) := rfl
  rw [e0]
  clear e0
  have h1 := read2_read1 d sMarks
  have h2 := read2_read1 d sLog
  unfold PD.nopen2
  generalize d.read1 sMarks = a at *
  generalize d.read2 sMarks = a' at *
  generalize d.read1 sLog = l at *
  generalize d.read2 sLog = l' at *
  obtain ⟨ab, at_, ae⟩ := a
  obtain ⟨ab', at', ae'⟩ := a'
  obtain ⟨lb, lt, le⟩ := l
  obtain ⟨lb', lt', le'⟩ := l'
  simp only at h1 h2 ⊢
  obtain ⟨rfl, rfl, h1⟩ := h1
  obtain ⟨rfl, rfl, h2⟩ := h2
  by_cases ha : ae' = 0
  · by_cases hl : le' = 0
    · have q1 := h1 ha
      have q2 := h2 hl
      subst q1 q2
      rfl
    · subst ha
      rw [if_neg (c := (0 : Int) ≠ 0) (by simp), if_neg (c := (0 : Int) ≠ 0) (by simp), if_pos hl, if_pos hl]
  · rw [if_pos ha, if_pos ha]
theorem read2_len {d : PD} {M : Nat} (h : Fit d M) (s : List UInt8) : (d.read2 s).1.length ≤ M := by
  rw [(read2_read1 d s).1]
  exact read1_len h s

/-- What the document's Open hands back. -/
def OpenedM (X : Nat → Prop) (w w' : World) (db : Nat) (d : PD) (mb : Nat) (v : Value) (r : Option (List (List UInt8)) × Int × PD) : Prop :=
  ∃ (Z : Nat → Prop) (hi : Nat), (∀ k, Z k → w.heap.size ≤ k) ∧ (∀ k, w.heap.size ≤ k → k < hi → Z k) ∧ Two (fun k => X k ∨ Z k) w' db d mb r.2.2 ∧ Chg (fun k => ¬ X k) w w' ∧
    match r.1 with
    | none => v = .tuple #[.pointer none, .slice none 0 0, .int .i64 r.2.1]
    | some rs => ∃ nb RA rcap, v = .tuple #[.pointer (some ⟨nb, 0, none⟩), .slice RA rs.length rcap, .int .i64 0] ∧ IsNodeM w' nb mb rs.length false ∧ Z nb ∧ RecRows w' RA rcap rs w.heap.size hi
theorem open65 {X : Nat → Prop} {w : World} {db mb : Nat} {d m : PD} {M : Nat} (h : Two X w db d mb m) (hf : Fit m M) (hM : M ≤ 68719476736) :
    Ret Try.prog 65 #[.pointer (some ⟨mb, 0, none⟩)] w fun v w' => OpenedM X w w' db d mb v m.nopen := by
  rw [← nopen2_eq]
  have hM' : M ≤ 1099511627776 := by omega
  have lm := read2_len hf sMarks
  have ll := read2_len hf sLog
  refine Ret.enter (fn := Try.f65) (N := 76) Try.func65 rfl Try.ntmps65 rfl ?_
  repeat (first | refine WL.nil ?_ | refine WL.auto (h := ?_) | refine WL.gskip rfl rfl rfl rfl ?_ | refine WL.gauto (h := ?_) | (refine CW.seq ?_; intro K hK) | refine CW.block ?_ | refine CW.region ?_ | refine CW.skip ?_ | refine CW.exit ?_ | refine CW.ret ?_ | (refine thn_ret (K := K) ?_; clear hK K) | refine thn_ret ?_ | refine blk_ret ?_ | (refine thn_exit (K := K) ?_; clear hK K) | refine thn_exit ?_ | refine blk_here ?_ | refine blk_past rfl ?_ | refine thn_norm ?_ | refine blk_norm ?_ | refine CW.condT rfl ?_ | refine CW.condF rfl ?_ | (refine hK _ _ ?_; clear hK K))
  first | refine WL.step rfl ?_ | refine WL.gstep rfl rfl rfl rfl ?_
  refine OpW.call ((read96 sMarks (readTM h sMarks hf hM')).mono ?_) rfl
  rintro v w1 ⟨A5, c5, rfl, o5, g1⟩
  have h1 := h.grow g1
  have e0 : m.nopen2 = if (m.read2 sMarks).2.2 ≠ 0 then (none, (m.read2 sMarks).2.2, m) else if (m.read2 sLog).2.2 ≠ 0 then (none, (m.read2 sLog).2.2, m) else
      match cutN (m.read2 sLog).1 (ones (m.read2 sMarks).1) with
      | none => (none, 52, m)
      | some p => if (m.settled (m.read2 sMarks) (m.read2 sLog) (ones (m.read2 sMarks).1) p.2).1 ≠ 0 then (none, (m.settled (m.read2 sMarks) (m.read2 sLog) (ones (m.read2 sMarks).1) p.2).1, (m.settled (m.read2 sMarks) (m.read2 sLog) (ones (m.read2 sMarks).1) p.2).2) else (some p.1, 0, (m.settled (m.read2 sMarks) (m.read2 sLog) (ones (m.read2 sMarks).1) p.2).2) := rfl
  generalize m.read2 sMarks = a at *
  obtain ⟨ab, ah, ae⟩ := a
  simp only at o5 e0 lm
  repeat (first | refine WL.nil ?_ | refine WL.auto (h := ?_) | refine WL.gskip rfl rfl rfl rfl ?_ | refine WL.gauto (h := ?_) | (refine CW.seq ?_; intro K hK) | refine CW.block ?_ | refine CW.region ?_ | refine CW.skip ?_ | refine CW.exit ?_ | refine CW.ret ?_ | (refine thn_ret (K := K) ?_; clear hK K) | refine thn_ret ?_ | refine blk_ret ?_ | (refine thn_exit (K := K) ?_; clear hK K) | refine thn_exit ?_ | refine blk_here ?_ | refine blk_past rfl ?_ | refine thn_norm ?_ | refine blk_norm ?_ | refine CW.condT rfl ?_ | refine CW.condF rfl ?_ | (refine hK _ _ ?_; clear hK K))
  refine CW.condP rfl (fun hm => ?_) (fun hm => ?_)
  · rw [if_pos hm] at e0
    repeat (first | refine WL.nil ?_ | refine WL.auto (h := ?_) | refine WL.gskip rfl rfl rfl rfl ?_ | refine WL.gauto (h := ?_) | (refine CW.seq ?_; intro K hK) | refine CW.block ?_ | refine CW.region ?_ | refine CW.skip ?_ | refine CW.exit ?_ | refine CW.ret ?_ | (refine thn_ret (K := K) ?_; clear hK K) | refine thn_ret ?_ | refine blk_ret ?_ | (refine thn_exit (K := K) ?_; clear hK K) | refine thn_exit ?_ | refine blk_here ?_ | refine blk_past rfl ?_ | refine thn_norm ?_ | refine blk_norm ?_ | refine CW.condT rfl ?_ | refine CW.condF rfl ?_ | (refine hK _ _ ?_; clear hK K))
    refine out3 (v1 := .pointer none) (v2 := .slice none 0 0) (v3 := .int .i64 ae) Try.results65 rfl rfl rfl ?_ (Or.inr rfl)
    rw [e0]
    exact ⟨_, w1.heap.size, fun k hk => hk.1, fun k h1 h2 => ⟨h1, h2⟩, h.more g1, Chg.to g1, rfl⟩
  rw [if_neg hm] at e0
  repeat (first | refine WL.nil ?_ | refine WL.auto (h := ?_) | refine WL.gskip rfl rfl rfl rfl ?_ | refine WL.gauto (h := ?_) | (refine CW.seq ?_; intro K hK) | refine CW.block ?_ | refine CW.region ?_ | refine CW.skip ?_ | refine CW.exit ?_ | refine CW.ret ?_ | (refine thn_ret (K := K) ?_; clear hK K) | refine thn_ret ?_ | refine blk_ret ?_ | (refine thn_exit (K := K) ?_; clear hK K) | refine thn_exit ?_ | refine blk_here ?_ | refine blk_past rfl ?_ | refine thn_norm ?_ | refine blk_norm ?_ | refine CW.condT rfl ?_ | refine CW.condF rfl ?_ | (refine hK _ _ ?_; clear hK K))
  first | refine WL.step rfl ?_ | refine WL.gstep rfl rfl rfl rfl ?_
  refine OpW.call ((read96 sLog (readTM h1 sLog hf hM')).mono ?_) rfl
  rintro v w2 ⟨A8, c8, rfl, o8, g2⟩
  have h2 := h1.grow g2
  replace o5 := o5.grow g2
  generalize m.read2 sLog = l at *
  obtain ⟨lb, lh, le⟩ := l
  simp only at o8 e0 ll
  repeat (first | refine WL.nil ?_ | refine WL.auto (h := ?_) | refine WL.gskip rfl rfl rfl rfl ?_ | refine WL.gauto (h := ?_) | (refine CW.seq ?_; intro K hK) | refine CW.block ?_ | refine CW.region ?_ | refine CW.skip ?_ | refine CW.exit ?_ | refine CW.ret ?_ | (refine thn_ret (K := K) ?_; clear hK K) | refine thn_ret ?_ | refine blk_ret ?_ | (refine thn_exit (K := K) ?_; clear hK K) | refine thn_exit ?_ | refine blk_here ?_ | refine blk_past rfl ?_ | refine thn_norm ?_ | refine blk_norm ?_ | refine CW.condT rfl ?_ | refine CW.condF rfl ?_ | (refine hK _ _ ?_; clear hK K))
  refine CW.condP rfl (fun hl => ?_) (fun hl => ?_)
  · rw [if_pos hl] at e0
    repeat (first | refine WL.nil ?_ | refine WL.auto (h := ?_) | refine WL.gskip rfl rfl rfl rfl ?_ | refine WL.gauto (h := ?_) | (refine CW.seq ?_; intro K hK) | refine CW.block ?_ | refine CW.region ?_ | refine CW.skip ?_ | refine CW.exit ?_ | refine CW.ret ?_ | (refine thn_ret (K := K) ?_; clear hK K) | refine thn_ret ?_ | refine blk_ret ?_ | (refine thn_exit (K := K) ?_; clear hK K) | refine thn_exit ?_ | refine blk_here ?_ | refine blk_past rfl ?_ | refine thn_norm ?_ | refine blk_norm ?_ | refine CW.condT rfl ?_ | refine CW.condF rfl ?_ | (refine hK _ _ ?_; clear hK K))
    refine out3 (v1 := .pointer none) (v2 := .slice none 0 0) (v3 := .int .i64 le) Try.results65 rfl rfl rfl ?_ (Or.inr rfl)
    rw [e0]
    exact ⟨_, w2.heap.size, fun k hk => hk.1, fun k h1 h2 => ⟨h1, h2⟩, h.more (g1.then g2), Chg.to (g1.then g2), rfl⟩
  rw [if_neg hl] at e0
  have hle : le = 0 := by simpa using hl
  subst hle
  have hol := ones_le ab
  have gw2 := g1.then g2
  repeat (first | refine WL.nil ?_ | refine WL.auto (h := ?_) | refine WL.gskip rfl rfl rfl rfl ?_ | refine WL.gauto (h := ?_) | (refine CW.seq ?_; intro K hK) | refine CW.block ?_ | refine CW.region ?_ | refine CW.skip ?_ | refine CW.exit ?_ | refine CW.ret ?_ | (refine thn_ret (K := K) ?_; clear hK K) | refine thn_ret ?_ | refine blk_ret ?_ | (refine thn_exit (K := K) ?_; clear hK K) | refine thn_exit ?_ | refine blk_here ?_ | refine blk_past rfl ?_ | refine thn_norm ?_ | refine blk_norm ?_ | refine CW.condT rfl ?_ | refine CW.condF rfl ?_ | (refine hK _ _ ?_; clear hK K))
  have key : ∀ e0, K (upd (upd (upd (upd (upd (upd (upd e0 0 (.pointer (some ⟨mb, 0, none⟩))) 5 (.slice A5 ab.length c5)) 6 (.bool ah)) 7 (.int .i64 0)) 8 (.slice A8 lb.length c8)) 9 (.bool lh)) 10 (.int .i64 (ones ab : Nat))) w2 := by
    intro E0
    refine hK _ _ ?_
    clear hK
    repeat (first | refine WL.nil ?_ | refine WL.auto (h := ?_) | refine WL.gskip rfl rfl rfl rfl ?_ | refine WL.gauto (h := ?_) | (refine CW.seq ?_; intro K hK) | refine CW.block ?_ | refine CW.region ?_ | refine CW.skip ?_ | refine CW.exit ?_ | refine CW.ret ?_ | (refine thn_ret (K := K) ?_; clear hK K) | refine thn_ret ?_ | refine blk_ret ?_ | (refine thn_exit (K := K) ?_; clear hK K) | refine thn_exit ?_ | refine blk_here ?_ | refine blk_past rfl ?_ | refine thn_norm ?_ | refine blk_norm ?_ | refine CW.condT rfl ?_ | refine CW.condF rfl ?_ | (refine hK _ _ ?_; clear hK K))
    first | refine WL.step rfl ?_ | refine WL.gstep rfl rfl rfl rfl ?_
    refine OpW.call ((records97 A8 c8 lb (ones ab) w2 o8.sl (by omega) o8.le (fun a ha => ⟨(o8.in_ ha).2, spot_own o8 a ha⟩) (by omega)).mono ?_) rfl
    rintro v w3 ⟨hr, g3⟩
    have gw3 := gw2.then g3
    cases hcut : cutN lb (ones ab) with
    | none =>
      rw [hcut] at hr e0
      obtain rfl := hr
      simp only at e0
      repeat (first | refine WL.nil ?_ | refine WL.auto (h := ?_) | refine WL.gskip rfl rfl rfl rfl ?_ | refine WL.gauto (h := ?_) | (refine CW.seq ?_; intro K hK) | refine CW.block ?_ | refine CW.region ?_ | refine CW.skip ?_ | refine CW.exit ?_ | refine CW.ret ?_ | (refine thn_ret (K := K) ?_; clear hK K) | refine thn_ret ?_ | refine blk_ret ?_ | (refine thn_exit (K := K) ?_; clear hK K) | refine thn_exit ?_ | refine blk_here ?_ | refine blk_past rfl ?_ | refine thn_norm ?_ | refine blk_norm ?_ | refine CW.condT rfl ?_ | refine CW.condF rfl ?_ | (refine hK _ _ ?_; clear hK K))
      refine out3 (v1 := .pointer none) (v2 := .slice none 0 0) (v3 := .int .i64 52) Try.results65 rfl rfl rfl ?_ (Or.inr rfl)
      rw [e0]
      exact ⟨_, w3.heap.size, fun k hk => hk.1, fun k h1 h2 => ⟨h1, h2⟩, h.more gw3, Chg.to gw3, rfl⟩
    | some p =>
      obtain ⟨rs, rest⟩ := p
      have hrl := cutN_len hcut
      rw [hcut] at hr e0
      obtain ⟨RA, rcap, rfl, hrec⟩ := hr
      simp only at e0 hrec hrl
      have h3 := h.more gw3
      have z2 : w.heap.size ≤ w2.heap.size := gw2.size
      obtain ⟨X3, hX3⟩ : ∃ X3, X3 = (fun k => X k ∨ w.heap.size ≤ k ∧ k < w3.heap.size) := ⟨_, rfl⟩
      rw [← hX3] at h3
      have hXX : ∀ k, X k → X3 k := fun k hk => by rw [hX3]; exact Or.inl hk
      have hXr : ∀ k, w.heap.size ≤ k → k < w3.heap.size → X3 k := fun k h1 h2 => by rw [hX3]; exact Or.inr ⟨h1, h2⟩
      have toX : ∀ {w' : World}, Chg (fun k => ¬ X3 k) w3 w' → Chg (fun k => ¬ X k) w w' := fun c => Grow.chg gw3 (c.mono fun k _ hk hx => hk (hXX k hx))
      repeat (first | refine WL.nil ?_ | refine WL.auto (h := ?_) | refine WL.gskip rfl rfl rfl rfl ?_ | refine WL.gauto (h := ?_) | (refine CW.seq ?_; intro K hK) | refine CW.block ?_ | refine CW.region ?_ | refine CW.skip ?_ | refine CW.exit ?_ | refine CW.ret ?_ | (refine thn_ret (K := K) ?_; clear hK K) | refine thn_ret ?_ | refine blk_ret ?_ | (refine thn_exit (K := K) ?_; clear hK K) | refine thn_exit ?_ | refine blk_here ?_ | refine blk_past rfl ?_ | refine thn_norm ?_ | refine blk_norm ?_ | refine CW.condT rfl ?_ | refine CW.condF rfl ?_ | (refine hK _ _ ?_; clear hK K))
      first | refine WL.step rfl ?_ | refine WL.gstep rfl rfl rfl rfl ?_
      refine OpW.call ((settle98 h3 sMarks ah ab.length (ones ab) hf).mono ?_) rfl
      rintro v w4 ⟨rfl, h4, c4⟩
      have e1 : (if ah = true then m.settle sMarks ab.length (ones ab) else (0, m)) = m.settled1 (ab, ah, ae) (ones ab) := rfl
      rw [e1] at h4 ⊢
      have hf1 := hf.settled1 (ab, ah, ae) (ones ab)
      have e2 : m.settled (ab, ah, ae) (lb, lh, 0) (ones ab) rest = PD.settled2 (m.settled1 (ab, ah, ae) (ones ab)) (lb, lh, 0) rest := rfl
      rw [e2] at e0
      clear e1 e2
      generalize m.settled1 (ab, ah, ae) (ones ab) = r1 at *
      obtain ⟨s1, d1⟩ := r1
      simp only at h4 hf1
      have e3 : PD.settled2 (s1, d1) (lb, lh, 0) rest = if lh = true ∧ s1 = 0 then d1.settle sLog lb.length (lb.length - rest.length) else (s1, d1) := rfl
      generalize PD.settled2 (s1, d1) (lb, lh, 0) rest = r2 at *
      obtain ⟨s2, d2⟩ := r2
      simp only at e0
      repeat (first | refine WL.nil ?_ | refine WL.auto (h := ?_) | refine WL.gskip rfl rfl rfl rfl ?_ | refine WL.gauto (h := ?_) | (refine CW.seq ?_; intro K hK) | refine CW.block ?_ | refine CW.region ?_ | refine CW.skip ?_ | refine CW.exit ?_ | refine CW.ret ?_ | (refine thn_ret (K := K) ?_; clear hK K) | refine thn_ret ?_ | refine blk_ret ?_ | (refine thn_exit (K := K) ?_; clear hK K) | refine thn_exit ?_ | refine blk_here ?_ | refine blk_past rfl ?_ | refine thn_norm ?_ | refine blk_norm ?_ | refine CW.condT rfl ?_ | refine CW.condF rfl ?_ | (refine hK _ _ ?_; clear hK K))
      have key2 : ∀ (w5 : World), Two X3 w5 db d mb d2 → Chg (fun k => ¬ X3 k) w3 w5 → ∀ e0, K (upd (upd (upd (upd e0 0 (.pointer (some ⟨mb, 0, none⟩))) 7 (.int .i64 s2)) 10 (.int .i64 (ones ab : Nat))) 11 (.slice RA rs.length rcap)) w5 := by
        intro w5 h5 c5' E1
        refine hK _ _ ?_
        clear hK
        have hrec5 := hrec.keep c5' fun k h1 h2 hn => hn (hXr k (by omega) h2)
        have gz := c5'.size
        repeat (first | refine WL.nil ?_ | refine WL.auto (h := ?_) | refine WL.gskip rfl rfl rfl rfl ?_ | refine WL.gauto (h := ?_) | (refine CW.seq ?_; intro K hK) | refine CW.block ?_ | refine CW.region ?_ | refine CW.skip ?_ | refine CW.exit ?_ | refine CW.ret ?_ | (refine thn_ret (K := K) ?_; clear hK K) | refine thn_ret ?_ | refine blk_ret ?_ | (refine thn_exit (K := K) ?_; clear hK K) | refine thn_exit ?_ | refine blk_here ?_ | refine blk_past rfl ?_ | refine thn_norm ?_ | refine blk_norm ?_ | refine CW.condT rfl ?_ | refine CW.condF rfl ?_ | (refine hK _ _ ?_; clear hK K))
        refine CW.condP rfl (fun hs2 => ?_) (fun hs2 => ?_)
        · rw [if_pos hs2] at e0
          repeat (first | refine WL.nil ?_ | refine WL.auto (h := ?_) | refine WL.gskip rfl rfl rfl rfl ?_ | refine WL.gauto (h := ?_) | (refine CW.seq ?_; intro K hK) | refine CW.block ?_ | refine CW.region ?_ | refine CW.skip ?_ | refine CW.exit ?_ | refine CW.ret ?_ | (refine thn_ret (K := K) ?_; clear hK K) | refine thn_ret ?_ | refine blk_ret ?_ | (refine thn_exit (K := K) ?_; clear hK K) | refine thn_exit ?_ | refine blk_here ?_ | refine blk_past rfl ?_ | refine thn_norm ?_ | refine blk_norm ?_ | refine CW.condT rfl ?_ | refine CW.condF rfl ?_ | (refine hK _ _ ?_; clear hK K))
          refine out3 (v1 := .pointer none) (v2 := .slice none 0 0) (v3 := .int .i64 s2) Try.results65 rfl rfl rfl ?_ (Or.inr rfl)
          rw [e0]
          exact ⟨_, w3.heap.size, fun k hk => hk.1, fun k h1 h2 => ⟨h1, h2⟩, hX3 ▸ h5, toX c5', rfl⟩
        · rw [if_neg hs2] at e0
          repeat (first | refine WL.nil ?_ | refine WL.auto (h := ?_) | refine WL.gskip rfl rfl rfl rfl ?_ | refine WL.gauto (h := ?_) | (refine CW.seq ?_; intro K hK) | refine CW.block ?_ | refine CW.region ?_ | refine CW.skip ?_ | refine CW.exit ?_ | refine CW.ret ?_ | (refine thn_ret (K := K) ?_; clear hK K) | refine thn_ret ?_ | refine blk_ret ?_ | (refine thn_exit (K := K) ?_; clear hK K) | refine thn_exit ?_ | refine blk_here ?_ | refine blk_past rfl ?_ | refine thn_norm ?_ | refine blk_norm ?_ | refine CW.condT rfl ?_ | refine CW.condF rfl ?_ | (refine hK _ _ ?_; clear hK K))
          first | refine WL.step rfl ?_ | refine WL.gstep rfl rfl rfl rfl ?_
          refine OpW.build (cells := #[.pointer (some ⟨mb, 0, none⟩), .int .i64 (ones ab : Nat), .bool false]) rfl rfl ?_
          repeat (first | refine WL.nil ?_ | refine WL.auto (h := ?_) | refine WL.gskip rfl rfl rfl rfl ?_ | refine WL.gauto (h := ?_) | (refine CW.seq ?_; intro K hK) | refine CW.block ?_ | refine CW.region ?_ | refine CW.skip ?_ | refine CW.exit ?_ | refine CW.ret ?_ | (refine thn_ret (K := K) ?_; clear hK K) | refine thn_ret ?_ | refine blk_ret ?_ | (refine thn_exit (K := K) ?_; clear hK K) | refine thn_exit ?_ | refine blk_here ?_ | refine blk_past rfl ?_ | refine thn_norm ?_ | refine blk_norm ?_ | refine CW.condT rfl ?_ | refine CW.condF rfl ?_ | (refine hK _ _ ?_; clear hK K))
          first | refine WL.step rfl ?_ | refine WL.gstep rfl rfl rfl rfl ?_
          refine OpW.box (v := .agg #[.pointer (some ⟨mb, 0, none⟩), .int .i64 (ones ab : Nat), .bool false]) rfl ?_
          intro nb w6 n6
          have hnb : Blk w6 nb #[.pointer (some ⟨mb, 0, none⟩), .int .i64 (ones ab : Nat), .bool false] 96 := n6.blk
          repeat (first | refine WL.nil ?_ | refine WL.auto (h := ?_) | refine WL.gskip rfl rfl rfl rfl ?_ | refine WL.gauto (h := ?_) | (refine CW.seq ?_; intro K hK) | refine CW.block ?_ | refine CW.region ?_ | refine CW.skip ?_ | refine CW.exit ?_ | refine CW.ret ?_ | (refine thn_ret (K := K) ?_; clear hK K) | refine thn_ret ?_ | refine blk_ret ?_ | (refine thn_exit (K := K) ?_; clear hK K) | refine thn_exit ?_ | refine blk_here ?_ | refine blk_past rfl ?_ | refine thn_norm ?_ | refine blk_norm ?_ | refine CW.condT rfl ?_ | refine CW.condF rfl ?_ | (refine hK _ _ ?_; clear hK K))
          refine out3 (v1 := .pointer (some ⟨nb, 0, none⟩)) (v2 := .slice RA rs.length rcap) (v3 := .int .i64 0) Try.results65 rfl rfl rfl ?_ (Or.inr rfl)
          rw [e0]
          have z3 : w.heap.size ≤ w3.heap.size := gw3.size
          refine ⟨fun k => (w.heap.size ≤ k ∧ k < w3.heap.size) ∨ (w5.heap.size ≤ k ∧ k < w6.heap.size), w3.heap.size, fun k hk => by rcases hk with hk | hk <;> omega, fun k h1 h2 => Or.inl ⟨h1, h2⟩, (h5.more n6.grow).less fun k hk => ?_, toX (c5'.andThen (Chg.to n6.grow)), nb, RA, rcap, rfl, ?_, Or.inr ⟨n6.fresh, hnb.lt⟩, (hrec5.grow n6.grow).from_ z2⟩
          · rw [hX3]
            rcases hk with hk | hk | hk
            · exact Or.inl (Or.inl hk)
            · exact Or.inl (Or.inr hk)
            · exact Or.inr hk
          · rw [hrl.1]
            exact hnb
      clear hK
      by_cases hs1 : s1 = 0
      · subst hs1
        repeat (first | refine WL.nil ?_ | refine WL.auto (h := ?_) | refine WL.gskip rfl rfl rfl rfl ?_ | refine WL.gauto (h := ?_) | (refine CW.seq ?_; intro K hK) | refine CW.block ?_ | refine CW.region ?_ | refine CW.skip ?_ | refine CW.exit ?_ | refine CW.ret ?_ | (refine thn_ret (K := K) ?_; clear hK K) | refine thn_ret ?_ | refine blk_ret ?_ | (refine thn_exit (K := K) ?_; clear hK K) | refine thn_exit ?_ | refine blk_here ?_ | refine blk_past rfl ?_ | refine thn_norm ?_ | refine blk_norm ?_ | refine CW.condT rfl ?_ | refine CW.condF rfl ?_ | (refine hK _ _ ?_; clear hK K))
        first | refine WL.step rfl ?_ | refine WL.gstep rfl rfl rfl rfl ?_
        refine OpW.call ((settle98 h4 sLog lh lb.length (lb.length - rest.length) hf1).mono ?_) rfl
        rintro v w5 ⟨rfl, h5, c5'⟩
        have e4 : (if lh = true then d1.settle sLog lb.length (lb.length - rest.length) else (0, d1)) = (s2, d2) := by
          rw [e3]
          cases lh <;> simp
        rw [e4] at h5 ⊢
        repeat (first | refine WL.nil ?_ | refine WL.auto (h := ?_) | refine WL.gskip rfl rfl rfl rfl ?_ | refine WL.gauto (h := ?_) | (refine CW.seq ?_; intro K hK) | refine CW.block ?_ | refine CW.region ?_ | refine CW.skip ?_ | refine CW.exit ?_ | refine CW.ret ?_ | (refine thn_ret (K := K) ?_; clear hK K) | refine thn_ret ?_ | refine blk_ret ?_ | (refine thn_exit (K := K) ?_; clear hK K) | refine thn_exit ?_ | refine blk_here ?_ | refine blk_past rfl ?_ | refine thn_norm ?_ | refine blk_norm ?_ | refine CW.condT rfl ?_ | refine CW.condF rfl ?_ | (refine hK _ _ ?_; clear hK K))
        exact K_of' (key2 w5 h5 (c4.andThen c5')) (rep4 rfl rfl rfl rfl)
      · rw [if_neg (fun h => hs1 h.2)] at e3
        cases e3
        rw [decide_eq_false hs1]
        repeat (first | refine WL.nil ?_ | refine WL.auto (h := ?_) | refine WL.gskip rfl rfl rfl rfl ?_ | refine WL.gauto (h := ?_) | (refine CW.seq ?_; intro K hK) | refine CW.block ?_ | refine CW.region ?_ | refine CW.skip ?_ | refine CW.exit ?_ | refine CW.ret ?_ | (refine thn_ret (K := K) ?_; clear hK K) | refine thn_ret ?_ | refine blk_ret ?_ | (refine thn_exit (K := K) ?_; clear hK K) | refine thn_exit ?_ | refine blk_here ?_ | refine blk_past rfl ?_ | refine thn_norm ?_ | refine blk_norm ?_ | refine CW.condT rfl ?_ | refine CW.condF rfl ?_ | (refine hK _ _ ?_; clear hK K))
        exact K_of' (key2 w4 h4 c4) (rep4 rfl rfl rfl rfl)
  clear hK
  refine CW.loop (fun n' e w3 => ∃ (k : Nat), k ≤ ab.length ∧ n' = ab.length - k ∧ (∀ i (h : i < ab.length), i < k → ab[i] = 1) ∧ w3 = w2 ∧ ∃ e0, e = upd (upd (upd (upd (upd (upd (upd e0 0 (.pointer (some ⟨mb, 0, none⟩))) 5 (.slice A5 ab.length c5)) 6 (.bool ah)) 7 (.int .i64 0)) 8 (.slice A8 lb.length c8)) 9 (.bool lh)) 10 (.int .i64 k)) ab.length ?_ ?_
  · exact ⟨0, by omega, rfl, fun i h hi => by omega, rfl, rep7 rfl rfl rfl rfl rfl rfl rfl⟩
  rintro n' e w3 ⟨k, hk, rfl, hall, rfl, e0', rfl⟩ KJ hJ
  repeat (first | refine WL.nil ?_ | refine WL.auto (h := ?_) | refine WL.gskip rfl rfl rfl rfl ?_ | refine WL.gauto (h := ?_) | (refine CW.seq ?_; intro K hK) | refine CW.block ?_ | refine CW.region ?_ | refine CW.skip ?_ | refine CW.exit ?_ | refine CW.ret ?_ | (refine thn_ret (K := K) ?_; clear hK K) | refine thn_ret ?_ | refine blk_ret ?_ | (refine thn_exit (K := K) ?_; clear hK K) | refine thn_exit ?_ | refine blk_here ?_ | refine blk_past rfl ?_ | refine thn_norm ?_ | refine blk_norm ?_ | refine CW.condT rfl ?_ | refine CW.condF rfl ?_ | (refine hK _ _ ?_; clear hK K))
  by_cases hkl : k < ab.length
  · rw [decide_eq_true (p := (k : Int) < (ab.length : Int)) (by omega)]
    have hsl := o5.sl
    have hkb : k < (bvs ab).length := by rw [bvs_length]; exact hkl
    have hcell : (bvs ab)[k]? = some (bv ab[k]) := by rw [bvs_get, List.getElem?_eq_getElem hkl]; rfl
    repeat (first | refine WL.nil ?_ | refine WL.auto (h := ?_) | refine WL.gskip rfl rfl rfl rfl ?_ | refine WL.gauto (h := ?_) | (refine CW.seq ?_; intro K hK) | refine CW.block ?_ | refine CW.region ?_ | refine CW.skip ?_ | refine CW.exit ?_ | refine CW.ret ?_ | (refine thn_ret (K := K) ?_; clear hK K) | refine thn_ret ?_ | refine blk_ret ?_ | (refine thn_exit (K := K) ?_; clear hK K) | refine thn_exit ?_ | refine blk_here ?_ | refine blk_past rfl ?_ | refine thn_norm ?_ | refine blk_norm ?_ | refine CW.condT rfl ?_ | refine CW.condF rfl ?_ | (refine hK _ _ ?_; clear hK K))
    first | refine WL.step rfl ?_ | refine WL.gstep rfl rfl rfl rfl ?_
    refine OpW.indexAddr k rfl rfl rfl hkl (sl_ne hsl hkb) (sl_sp hsl hkb) ?_
    repeat (first | refine WL.nil ?_ | refine WL.auto (h := ?_) | refine WL.gskip rfl rfl rfl rfl ?_ | refine WL.gauto (h := ?_) | (refine CW.seq ?_; intro K hK) | refine CW.block ?_ | refine CW.region ?_ | refine CW.skip ?_ | refine CW.exit ?_ | refine CW.ret ?_ | (refine thn_ret (K := K) ?_; clear hK K) | refine thn_ret ?_ | refine blk_ret ?_ | (refine thn_exit (K := K) ?_; clear hK K) | refine thn_exit ?_ | refine blk_here ?_ | refine blk_past rfl ?_ | refine thn_norm ?_ | refine blk_norm ?_ | refine CW.condT rfl ?_ | refine CW.condF rfl ?_ | (refine hK _ _ ?_; clear hK K))
    first | refine WL.step rfl ?_ | refine WL.gstep rfl rfl rfl rfl ?_
    refine OpW.loadS (v := bv ab[k]) rfl hsl (by simpa using hcell) ?_
    repeat (first | refine WL.nil ?_ | refine WL.auto (h := ?_) | refine WL.gskip rfl rfl rfl rfl ?_ | refine WL.gauto (h := ?_) | (refine CW.seq ?_; intro K hK) | refine CW.block ?_ | refine CW.region ?_ | refine CW.skip ?_ | refine CW.exit ?_ | refine CW.ret ?_ | (refine thn_ret (K := K) ?_; clear hK K) | refine thn_ret ?_ | refine blk_ret ?_ | (refine thn_exit (K := K) ?_; clear hK K) | refine thn_exit ?_ | refine blk_here ?_ | refine blk_past rfl ?_ | refine thn_norm ?_ | refine blk_norm ?_ | refine CW.condT rfl ?_ | refine CW.condF rfl ?_ | (refine hK _ _ ?_; clear hK K))
    refine CW.condP rfl (fun h4 => ?_) (fun h4 => ?_)
    · have h5 : ab[k] = 1 := UInt8.toNat_inj.1 (show ab[k].toNat = (1 : UInt8).toNat from by rw [show (1 : UInt8).toNat = 1 from rfl]; omega)
      repeat (first | refine WL.nil ?_ | refine WL.auto (h := ?_) | refine WL.gskip rfl rfl rfl rfl ?_ | refine WL.gauto (h := ?_) | (refine CW.seq ?_; intro K hK) | refine CW.block ?_ | refine CW.region ?_ | refine CW.skip ?_ | refine CW.exit ?_ | refine CW.ret ?_ | (refine thn_ret (K := K) ?_; clear hK K) | refine thn_ret ?_ | refine blk_ret ?_ | (refine thn_exit (K := K) ?_; clear hK K) | refine thn_exit ?_ | refine blk_here ?_ | refine blk_past rfl ?_ | refine thn_norm ?_ | refine blk_norm ?_ | refine CW.condT rfl ?_ | refine CW.condF rfl ?_ | (refine hK _ _ ?_; clear hK K))
      refine hJ (ab.length - (k + 1)) _ _ (by omega) ⟨k + 1, by omega, rfl, fun i h hi => ?_, rfl, rep7 rfl rfl rfl rfl rfl rfl (congrArg (Value.int .i64) (by omega))⟩
      rcases Nat.lt_or_ge i k with h' | h'
      · exact hall i h h'
      · obtain rfl : i = k := by omega
        exact h5
    · have ho := ones_lt hkl hall (fun h5 => h4 (by rw [h5]; rfl))
      repeat (first | refine WL.nil ?_ | refine WL.auto (h := ?_) | refine WL.gskip rfl rfl rfl rfl ?_ | refine WL.gauto (h := ?_) | (refine CW.seq ?_; intro K hK) | refine CW.block ?_ | refine CW.region ?_ | refine CW.skip ?_ | refine CW.exit ?_ | refine CW.ret ?_ | (refine thn_ret (K := K) ?_; clear hK K) | refine thn_ret ?_ | refine blk_ret ?_ | (refine thn_exit (K := K) ?_; clear hK K) | refine thn_exit ?_ | refine blk_here ?_ | refine blk_past rfl ?_ | refine thn_norm ?_ | refine blk_norm ?_ | refine CW.condT rfl ?_ | refine CW.condF rfl ?_ | (refine hK _ _ ?_; clear hK K))
      exact K_of' key (rep7 rfl rfl rfl rfl rfl rfl (congrArg (Value.int .i64) (by rw [ho])))
  · obtain rfl : k = ab.length := by omega
    rw [decide_eq_false (p := ((ab.length : Nat) : Int) < (ab.length : Int)) (by omega)]
    have ho := ones_all fun i h => hall i h h
    repeat (first | refine WL.nil ?_ | refine WL.auto (h := ?_) | refine WL.gskip rfl rfl rfl rfl ?_ | refine WL.gauto (h := ?_) | (refine CW.seq ?_; intro K hK) | refine CW.block ?_ | refine CW.region ?_ | refine CW.skip ?_ | refine CW.exit ?_ | refine CW.ret ?_ | (refine thn_ret (K := K) ?_; clear hK K) | refine thn_ret ?_ | refine blk_ret ?_ | (refine thn_exit (K := K) ?_; clear hK K) | refine thn_exit ?_ | refine blk_here ?_ | refine blk_past rfl ?_ | refine thn_norm ?_ | refine blk_norm ?_ | refine CW.condT rfl ?_ | refine CW.condF rfl ?_ | (refine hK _ _ ?_; clear hK K))
    exact K_of' key (rep7 rfl rfl rfl rfl rfl rfl (congrArg (Value.int .i64) (by rw [ho])))
end B
end Go.Proofs.Ytlofcomnhecgfaa
/- A node beside the document's disk; rows compared. Sizes are bounded. -/
namespace Go.Proofs.Ytlofcomnhecgfaa
namespace B
attribute [local irreducible] OpW WL CW Ret Sl Blk thn blk outOf
set_option linter.unusedVariables false
set_option linter.unusedSimpArgs false
set_option maxRecDepth 4000

section
variable {X : Nat → Prop} {tag tag' : Nat → Tag} {w w' : World} {db mb : Nat} {d m : PD}
theorem DiskRep.retagI (h : DiskRep tag w db d) (ht : ∀ k, k < w.heap.size → (tag k).impl = true → tag' k = tag k) : DiskRep tag' w db d := by
  obtain ⟨FA, fcap, fs, h⟩ := h
  refine ⟨FA, fcap, fs, by rw [ht db h.blk.lt (by rw [h.tg]; rfl)]; exact h.tg, h.blk, h.own.zone fun a ha => ?_, h.len, fun i f fb h1 h2 => ?_⟩
  · have q := h.own.in_ ha
    show tag' a.block = .arr
    rw [ht _ q.2 (by rw [show tag a.block = .arr from q.1]; rfl)]
    exact q.1
  · obtain ⟨h3, DA, cap, h4, h5⟩ := h.file i f fb h1 h2
    refine ⟨by rw [ht fb h4.lt (by rw [h3]; rfl)]; exact h3, DA, cap, h4, h5.zone fun a ha => ?_⟩
    have q := h5.in_ ha
    show tag' a.block = .data i
    rw [ht _ q.2 (by rw [show tag a.block = .data i from q.1]; rfl)]
    exact q.1
theorem RefRep.retagR (h : RefRep tag w mb m) (ht : ∀ k, k < w.heap.size → (tag k).ref = true → tag' k = tag k) : RefRep tag' w mb m := by
  obtain ⟨RA, rcap, rc, h⟩ := h
  refine ⟨RA, rcap, rc, by rw [ht mb h.blk.lt (by rw [h.tg]; rfl)]; exact h.tg, h.blk, h.own.zone fun a ha => ?_, fun i f h1 => ?_⟩
  · have q := h.own.in_ ha
    show tag' a.block = .rarr
    rw [ht _ q.2 (by rw [show tag a.block = .rarr from q.1]; rfl)]
    exact q.1
  · refine (h.file i f h1).mono fun b hb hz => ?_
    show tag' b = .rdata i
    rw [ht b hb (by rw [show tag b = .rdata i from hz]; rfl)]
    exact hz
/-- What a disk's own calls do leaves the document's disk beside it. -/
theorem Two.beside (h : Two X w db d mb m) : ∃ Y : Nat → Prop, One Y w db d ∧ (∀ k, X k → Y k) ∧ ∀ (w' : World) (Y' : Nat → Prop) (db' : Nat) (d' : PD) (E : Nat → Prop), One Y' w' db' d' → (∀ k, Y k → Y' k) → Chg (fun k => ¬ Y k ∨ E k) w w' → (∀ k, E k → X k) →
    Two (fun k => X k ∨ w.heap.size ≤ k ∧ Y' k) w' db' d' mb m ∧ Chg (fun k => ¬ X k ∨ E k) w w' := by
  obtain ⟨tag, h1, h2, h3⟩ := h
  refine ⟨fun k => k < w.heap.size ∧ (tag k).impl = false, ⟨fun k => if (tag k).impl = true then tag k else .other, fun k hk => ⟨hk.1, by show (if _ then _ else _) = _; rw [if_neg (by rw [hk.2]; simp)]⟩, h2.retagI fun k _ hi => if_pos hi⟩, fun k hk => ?_, ?_⟩
  · obtain ⟨q1, q2⟩ := h1 k hk
    exact ⟨q1, by rw [q2]; rfl⟩
  · rintro w' Y' db' d' E ⟨tag1, k1, k2⟩ hY c hE
    have hr3 : ∀ k, (if k < w.heap.size ∧ (tag k).ref = true then tag k else if (tag1 k).impl = true then tag1 k else .other).ref = true → k < w.heap.size ∧ (tag k).ref = true := fun k hk => by
      split at hk
      · assumption
      · split at hk
        · rename_i h5
          exact absurd h5 (Tag.ref_impl hk)
        · cases hk
    refine ⟨⟨fun k => if k < w.heap.size ∧ (tag k).ref = true then tag k else if (tag1 k).impl = true then tag1 k else .other, fun k hk => ?_, ?_, ?_⟩, c.mono fun k _ hk => hk.imp (fun hn hx => hn ?_) id⟩
    · rcases hk with hk | ⟨q1, q2⟩
      · obtain ⟨q1, q2⟩ := h1 k hk
        refine ⟨by have := c.size; omega, ?_⟩
        show (if _ then _ else _) = _
        rw [if_neg (by rw [q2]; simp [Tag.ref]), (k1 k (hY k ⟨q1, by rw [q2]; rfl⟩)).2]
        rfl
      · refine ⟨(k1 k q2).1, ?_⟩
        show (if _ then _ else _) = _
        rw [if_neg (by omega), (k1 k q2).2]
        rfl
    · refine k2.retagI fun k hk hi => ?_
      show (if _ then _ else _) = _
      rw [if_neg ?_, if_pos hi]
      rintro ⟨q1, q2⟩
      have q3 := (k1 k (hY k ⟨q1, by cases hq : (tag k).impl with
        | false => rfl
        | true => exact absurd hq (Tag.ref_impl q2)⟩)).2
      rw [q3] at hi
      cases hi
    · have h3' : RefRep (fun k => if k < w.heap.size ∧ (tag k).ref = true then tag k else if (tag1 k).impl = true then tag1 k else .other) w mb m := h3.retagR fun k hk hr => if_pos ⟨hk, hr⟩
      obtain ⟨RA, rcap, rc, h4⟩ := h3'
      exact ⟨RA, rcap, rc, h4.keep c fun b hb hs => by
        obtain ⟨q1, q2⟩ := hr3 b hb
        rcases hs with hs | hs
        · refine hs ⟨q1, ?_⟩
          cases hp : (tag b).impl with
          | false => rfl
          | true => exact absurd hp (Tag.ref_impl q2)
        · rw [(h1 b (hE b hs)).2] at q2
          cases q2⟩
    · obtain ⟨q1, q2⟩ := h1 k hx
      exact ⟨q1, by rw [q2]; rfl⟩
/-- What Open hands back beside the document's disk. -/
def OpenedT (X : Nat → Prop) (w w' : World) (db mb : Nat) (m : PD) (v : Value) (r : Option (List (List UInt8)) × Int × PD) : Prop :=
  ∃ (Z : Nat → Prop) (hi : Nat), (∀ k, Z k → w.heap.size ≤ k) ∧ (∀ k, w.heap.size ≤ k → k < hi → Z k) ∧ Two (fun k => X k ∨ Z k) w' db r.2.2 mb m ∧ Chg (fun k => ¬ X k) w w' ∧
    match r.1 with
    | none => v = .tuple #[.pointer none, .slice none 0 0, .int .i64 r.2.1]
    | some rs => ∃ nb RA rcap, v = .tuple #[.pointer (some ⟨nb, 0, none⟩), .slice RA rs.length rcap, .int .i64 0] ∧ IsNode w' nb db rs.length false ∧ Z nb ∧ RecRows w' RA rcap rs w.heap.size hi
theorem openT61 {M : Nat} (h : Two X w db d mb m) (hf : Fit d M) (hM : M ≤ 68719476736) :
    Ret Try.prog 61 #[.pointer (some ⟨db, 0, none⟩)] w fun v w' => OpenedT X w w' db mb m v d.nopen := by
  obtain ⟨Y, h1, h2, h3⟩ := h.beside
  refine (open61 h1 hf hM).mono ?_
  rintro v w1 ⟨hi, hhi, k1, c1, hv⟩
  obtain ⟨q1, q2⟩ := h3 w1 (fun k => Y k ∨ w.heap.size ≤ k ∧ k < hi) db d.nopen.2.2 (fun _ => False) k1 (fun _ h => Or.inl h) (c1.mono fun _ _ h => Or.inl h) (fun _ h => h.elim)
  refine ⟨fun k => w.heap.size ≤ k ∧ k < hi, hi, fun k hk => hk.1, fun k a b => ⟨a, b⟩, q1.less fun k hk => hk.imp id fun hk => ⟨hk.1, Or.inr hk⟩, q2.mono fun k _ hk => hk.elim id False.elim, ?_⟩
  cases hr : d.nopen.1 with
  | none => rw [hr] at hv; exact hv
  | some rs =>
    rw [hr] at hv
    obtain ⟨nb, RA, rcap, e, hn, z1, z2, hrec⟩ := hv
    exact ⟨nb, RA, rcap, e, hn, ⟨z1, z2⟩, hrec⟩
theorem putT62 {nb c : Nat} {s : Bool} {M : Nat} {r : List UInt8} {B : Option Addr} {rc : Nat} (h : Two X w db d mb m) (hn : IsNode w nb db c s) (x1 : X nb) (hB : Sl w B (bvs r)) (hBX : r ≠ [] → ∀ a, B = some a → X a.block) (hf : Fit d M) (hM : M ≤ 34359738368) (hr : r.length ≤ 1048576) (hc : c ≤ 1099511627776) :
    Ret Try.prog 62 #[.pointer (some ⟨nb, 0, none⟩), .slice B r.length rc] w fun v w' =>
      if s = true then v = .int .i64 52 ∧ Grow w w' else v = .int .i64 (d.nput r).1 ∧ Two X w' db (d.nput r).2 mb m ∧ IsNode w' nb db (if (d.nput r).1 = 0 then c + 1 else c) (decide ((d.nput r).1 ≠ 0)) ∧ Chg (fun k => ¬ X k ∨ k = nb) w w' := by
  obtain ⟨Y, h1, h2, h3⟩ := h.beside
  refine (put62 h1 hn (h2 _ x1) hB (fun hne a ha => h2 _ (hBX hne a ha)) hf hM hr hc).mono ?_
  intro v w1 hv
  split at hv
  · rename_i hs
    rw [if_pos hs]
    exact hv
  · rename_i hs
    rw [if_neg hs]
    obtain ⟨e, k1, hn1, c1⟩ := hv
    obtain ⟨q1, q2⟩ := h3 w1 Y db (d.nput r).2 (· = nb) k1 (fun _ h => h) c1 (fun k hk => by rw [hk]; exact x1)
    exact ⟨e, q1.less fun k hk => Or.inl hk, hn1, q2⟩
end

/-- Rows of bytes, readable. -/
def RowsIn (w : World) (A : Option Addr) (rs : List (List UInt8)) : Prop :=
  ∃ cells : List Value, Sl w A cells ∧ cells.length = rs.length ∧ ∀ (i : Nat) (r : List UInt8), rs[i]? = some r → ∃ D c, cells[i]? = some (Value.slice D r.length c) ∧ Sl w D (bvs r)
theorem RowsIn.grow {w w' : World} {A : Option Addr} {rs : List (List UInt8)} (h : RowsIn w A rs) (g : Grow w w') : RowsIn w' A rs := by
  obtain ⟨cells, h1, h2, h3⟩ := h
  refine ⟨cells, h1.grow g, h2, fun i r hr => ?_⟩
  obtain ⟨D, c, q1, q2⟩ := h3 i r hr
  exact ⟨D, c, q1, q2.grow g⟩
theorem RowsIn.nil (w : World) : RowsIn w none [] := ⟨[], Sl.nil _ _, rfl, fun i r hr => by simp at hr⟩
theorem RecRows.in_ {w : World} {RA : Option Addr} {rcap lo hi : Nat} {rs : List (List UInt8)} (h : RecRows w RA rcap rs lo hi) : RowsIn w RA rs := by
  obtain ⟨cells, col, h1, h2⟩ := h
  refine ⟨cells, h1.sl, by have := h1.1; omega, fun i r hr => ?_⟩
  obtain ⟨D, c, q1, q2⟩ := h2 i r hr
  exact ⟨D, c, q1, q2.sl⟩
theorem RowsIn.take {w : World} {A : Option Addr} {rs : List (List UInt8)} (h : RowsIn w A rs) (n : Nat) : RowsIn w A (rs.take n) := by
  obtain ⟨cells, h1, h2, h3⟩ := h
  refine ⟨cells.take n, h1.take n, by simp [h2], fun i r hr => ?_⟩
  rw [List.getElem?_take] at hr
  split at hr
  · rename_i hi
    obtain ⟨D, c, q1, q2⟩ := h3 i r hr
    exact ⟨D, c, by rw [List.getElem?_take, if_pos hi]; exact q1, q2⟩
  · cases hr
theorem same66 {A B : Option Addr} {ca cb : Nat} {us vs : List (List UInt8)} {w : World} (ha : RowsIn w A us) (hb : RowsIn w B vs) (hl : us.length ≤ 1099511627776) :
    Ret Try.prog 66 #[.slice A us.length ca, .slice B vs.length cb] w fun v w' => v = .bool (decide (us = vs)) ∧ Grow w w' := by
  refine Ret.enter (fn := Try.f66) (N := 28) Try.func66 rfl Try.ntmps66 rfl ?_
  repeat (first | refine WL.nil ?_ | refine WL.auto (h := ?_) | refine WL.gskip rfl rfl rfl rfl ?_ | refine WL.gauto (h := ?_) | (refine CW.seq ?_; intro K hK) | refine CW.block ?_ | refine CW.region ?_ | refine CW.skip ?_ | refine CW.exit ?_ | refine CW.ret ?_ | (refine thn_ret (K := K) ?_; clear hK K) | refine thn_ret ?_ | refine blk_ret ?_ | (refine thn_exit (K := K) ?_; clear hK K) | refine thn_exit ?_ | refine blk_here ?_ | refine blk_past rfl ?_ | refine thn_norm ?_ | refine blk_norm ?_ | refine CW.condT rfl ?_ | refine CW.condF rfl ?_ | (refine hK _ _ ?_; clear hK K))
  refine CW.condP rfl (fun hc => ?_) (fun hc => ?_)
  · repeat (first | refine WL.nil ?_ | refine WL.auto (h := ?_) | refine WL.gskip rfl rfl rfl rfl ?_ | refine WL.gauto (h := ?_) | (refine CW.seq ?_; intro K hK) | refine CW.block ?_ | refine CW.region ?_ | refine CW.skip ?_ | refine CW.exit ?_ | refine CW.ret ?_ | (refine thn_ret (K := K) ?_; clear hK K) | refine thn_ret ?_ | refine blk_ret ?_ | (refine thn_exit (K := K) ?_; clear hK K) | refine thn_exit ?_ | refine blk_here ?_ | refine blk_past rfl ?_ | refine thn_norm ?_ | refine blk_norm ?_ | refine CW.condT rfl ?_ | refine CW.condF rfl ?_ | (refine hK _ _ ?_; clear hK K))
    refine out1 (v := .bool false) Try.results66 rfl ⟨congrArg Value.bool (decide_eq_false fun h => hc (by rw [h])).symm, Chg.refl _ _⟩ (Or.inr rfl)
  have hlen : us.length = vs.length := by omega
  obtain ⟨xa, xa1, xa2, xa3⟩ := ha
  obtain ⟨xb, xb1, xb2, xb3⟩ := hb
  repeat (first | refine WL.nil ?_ | refine WL.auto (h := ?_) | refine WL.gskip rfl rfl rfl rfl ?_ | refine WL.gauto (h := ?_) | (refine CW.seq ?_; intro K hK) | refine CW.block ?_ | refine CW.region ?_ | refine CW.skip ?_ | refine CW.exit ?_ | refine CW.ret ?_ | (refine thn_ret (K := K) ?_; clear hK K) | refine thn_ret ?_ | refine blk_ret ?_ | (refine thn_exit (K := K) ?_; clear hK K) | refine thn_exit ?_ | refine blk_here ?_ | refine blk_past rfl ?_ | refine thn_norm ?_ | refine blk_norm ?_ | refine CW.condT rfl ?_ | refine CW.condF rfl ?_ | (refine hK _ _ ?_; clear hK K))
  refine CW.loop (fun n' e w2 => ∃ k, k ≤ us.length ∧ n' = us.length - k ∧ us.take k = vs.take k ∧ Grow w w2 ∧ ∃ e0, e = upd (upd (upd (upd e0 0 (.slice A us.length ca)) 1 (.slice B vs.length cb)) 12 (.int .i64 us.length)) 13 (.int .i64 k)) us.length ?_ ?_
  · exact ⟨0, by omega, rfl, rfl, Chg.refl _ _, rep4 rfl rfl rfl rfl⟩
  rintro n' e w2 ⟨k, hk, rfl, hall, g2, e0, rfl⟩ KJ hJ
  repeat (first | refine WL.nil ?_ | refine WL.auto (h := ?_) | refine WL.gskip rfl rfl rfl rfl ?_ | refine WL.gauto (h := ?_) | (refine CW.seq ?_; intro K hK) | refine CW.block ?_ | refine CW.region ?_ | refine CW.skip ?_ | refine CW.exit ?_ | refine CW.ret ?_ | (refine thn_ret (K := K) ?_; clear hK K) | refine thn_ret ?_ | refine blk_ret ?_ | (refine thn_exit (K := K) ?_; clear hK K) | refine thn_exit ?_ | refine blk_here ?_ | refine blk_past rfl ?_ | refine thn_norm ?_ | refine blk_norm ?_ | refine CW.condT rfl ?_ | refine CW.condF rfl ?_ | (refine hK _ _ ?_; clear hK K))
  refine CW.condP rfl (fun h3 => ?_) (fun h3 => ?_)
  · have hkl : k < us.length := by omega
    have hkl' : k < vs.length := by omega
    obtain ⟨Da, da, ya1, ya2⟩ := xa3 k _ (List.getElem?_eq_getElem hkl)
    obtain ⟨Db, dbc, yb1, yb2⟩ := xb3 k _ (List.getElem?_eq_getElem hkl')
    have ta : us.take (k + 1) = us.take k ++ [us[k]] := List.take_succ_eq_append_getElem hkl
    have tb : vs.take (k + 1) = vs.take k ++ [vs[k]] := List.take_succ_eq_append_getElem hkl'
    have ga : us[k]? = some us[k] := List.getElem?_eq_getElem hkl
    have gb : vs[k]? = some vs[k] := List.getElem?_eq_getElem hkl'
    generalize us[k] = ra at *
    generalize vs[k] = rb at *
    have sa := xa1.grow g2
    have sb := xb1.grow g2
    have na := sl_ne sa (show k < xa.length by omega)
    have nb := sl_ne sb (show k < xb.length by omega)
    have pa := sl_sp sa (show k < xa.length by omega)
    have pb := sl_sp sb (show k < xb.length by omega)
    have ya3 := ya2.grow g2
    have yb3 := yb2.grow g2
    repeat (first | refine WL.nil ?_ | refine WL.auto (h := ?_) | refine WL.gskip rfl rfl rfl rfl ?_ | refine WL.gauto (h := ?_) | (refine CW.seq ?_; intro K hK) | refine CW.block ?_ | refine CW.region ?_ | refine CW.skip ?_ | refine CW.exit ?_ | refine CW.ret ?_ | (refine thn_ret (K := K) ?_; clear hK K) | refine thn_ret ?_ | refine blk_ret ?_ | (refine thn_exit (K := K) ?_; clear hK K) | refine thn_exit ?_ | refine blk_here ?_ | refine blk_past rfl ?_ | refine thn_norm ?_ | refine blk_norm ?_ | refine CW.condT rfl ?_ | refine CW.condF rfl ?_ | (refine hK _ _ ?_; clear hK K))
    refine CW.quiet rfl (by kernel_rfl) ?_
    repeat (first | refine QL.nil ?_ | refine QL.auto (hn := ?_) | refine QL.gskip rfl rfl rfl rfl ?_ | refine QL.gauto (hn := ?_))
    refine QL.step rfl rfl (fun w hg => OpW.indexAddr k rfl rfl rfl hkl na pa ⟨rfl, rfl⟩) ?_
    refine QL.step rfl rfl (fun w hg => OpW.loadS (v := .slice Da ra.length da) rfl (sa.grow hg) (by simpa using ya1) ⟨rfl, rfl⟩) ?_
    refine QL.step rfl rfl (fun w hg => OpW.toStr rfl (ya3.grow hg) rfl ⟨rfl, rfl⟩) ?_
    repeat (first | refine QL.nil ?_ | refine QL.auto (hn := ?_) | refine QL.gskip rfl rfl rfl rfl ?_ | refine QL.gauto (hn := ?_))
    refine QL.step rfl rfl (fun w hg => OpW.indexAddr k rfl rfl rfl hkl' nb pb ⟨rfl, rfl⟩) ?_
    refine QL.step rfl rfl (fun w hg => OpW.loadS (v := .slice Db rb.length dbc) rfl (sb.grow hg) (by simpa using yb1) ⟨rfl, rfl⟩) ?_
    refine QL.step rfl rfl (fun w hg => OpW.toStr rfl (yb3.grow hg) rfl ⟨rfl, rfl⟩) ?_
    repeat (first | refine QL.nil ?_ | refine QL.auto (hn := ?_) | refine QL.gskip rfl rfl rfl rfl ?_ | refine QL.gauto (hn := ?_))
    intro w3 g3
    repeat (first | refine WL.nil ?_ | refine WL.auto (h := ?_) | refine WL.gskip rfl rfl rfl rfl ?_ | refine WL.gauto (h := ?_) | (refine CW.seq ?_; intro K hK) | refine CW.block ?_ | refine CW.region ?_ | refine CW.skip ?_ | refine CW.exit ?_ | refine CW.ret ?_ | (refine thn_ret (K := K) ?_; clear hK K) | refine thn_ret ?_ | refine blk_ret ?_ | (refine thn_exit (K := K) ?_; clear hK K) | refine thn_exit ?_ | refine blk_here ?_ | refine blk_past rfl ?_ | refine thn_norm ?_ | refine blk_norm ?_ | refine CW.condT rfl ?_ | refine CW.condF rfl ?_ | (refine hK _ _ ?_; clear hK K))
    refine CW.condP rfl (fun h4 => ?_) (fun h4 => ?_)
    · repeat (first | refine WL.nil ?_ | refine WL.auto (h := ?_) | refine WL.gskip rfl rfl rfl rfl ?_ | refine WL.gauto (h := ?_) | (refine CW.seq ?_; intro K hK) | refine CW.block ?_ | refine CW.region ?_ | refine CW.skip ?_ | refine CW.exit ?_ | refine CW.ret ?_ | (refine thn_ret (K := K) ?_; clear hK K) | refine thn_ret ?_ | refine blk_ret ?_ | (refine thn_exit (K := K) ?_; clear hK K) | refine thn_exit ?_ | refine blk_here ?_ | refine blk_past rfl ?_ | refine thn_norm ?_ | refine blk_norm ?_ | refine CW.condT rfl ?_ | refine CW.condF rfl ?_ | (refine hK _ _ ?_; clear hK K))
      refine out1 (v := .bool false) Try.results66 rfl ⟨congrArg Value.bool (decide_eq_false fun h => h4 ?_).symm, g2.then g3⟩ (Or.inr rfl)
      rw [h, gb] at ga
      exact (Option.some.inj ga).symm
    · have h5 : ra = rb := by simpa using h4
      repeat (first | refine WL.nil ?_ | refine WL.auto (h := ?_) | refine WL.gskip rfl rfl rfl rfl ?_ | refine WL.gauto (h := ?_) | (refine CW.seq ?_; intro K hK) | refine CW.block ?_ | refine CW.region ?_ | refine CW.skip ?_ | refine CW.exit ?_ | refine CW.ret ?_ | (refine thn_ret (K := K) ?_; clear hK K) | refine thn_ret ?_ | refine blk_ret ?_ | (refine thn_exit (K := K) ?_; clear hK K) | refine thn_exit ?_ | refine blk_here ?_ | refine blk_past rfl ?_ | refine thn_norm ?_ | refine blk_norm ?_ | refine CW.condT rfl ?_ | refine CW.condF rfl ?_ | (refine hK _ _ ?_; clear hK K))
      exact hJ (us.length - (k + 1)) _ _ (by omega) ⟨k + 1, by omega, rfl, by rw [ta, tb, hall, h5], g2.then g3, rep4 rfl rfl rfl (congrArg (Value.int .i64) (by omega))⟩
  · obtain rfl : k = us.length := by omega
    have h6 : us = vs := by
      rw [List.take_length, hlen, List.take_length] at hall
      exact hall
    repeat (first | refine WL.nil ?_ | refine WL.auto (h := ?_) | refine WL.gskip rfl rfl rfl rfl ?_ | refine WL.gauto (h := ?_) | (refine CW.seq ?_; intro K hK) | refine CW.block ?_ | refine CW.region ?_ | refine CW.skip ?_ | refine CW.exit ?_ | refine CW.ret ?_ | (refine thn_ret (K := K) ?_; clear hK K) | refine thn_ret ?_ | refine blk_ret ?_ | (refine thn_exit (K := K) ?_; clear hK K) | refine thn_exit ?_ | refine blk_here ?_ | refine blk_past rfl ?_ | refine thn_norm ?_ | refine blk_norm ?_ | refine CW.condT rfl ?_ | refine CW.condF rfl ?_ | (refine hK _ _ ?_; clear hK K))
    exact out1 (v := .bool true) Try.results66 rfl ⟨congrArg Value.bool (decide_eq_true h6).symm, g2⟩ (Or.inr rfl)
end B
end Go.Proofs.Ytlofcomnhecgfaa
/- Put of the document's node. Sizes are bounded. -/
namespace Go.Proofs.Ytlofcomnhecgfaa
namespace B
attribute [local irreducible] OpW WL CW Ret Sl Blk thn blk outOf
set_option linter.unusedVariables false
set_option linter.unusedSimpArgs false
set_option maxRecDepth 4000

theorem put67 {X : Nat → Prop} {w : World} {db mb nb c : Nat} {s : Bool} {d m : PD} {M : Nat} {r : List UInt8} {B : Option Addr} {rc : Nat} (h : Two X w db d mb m) (hn : IsNodeM w nb mb c s) (x1 : X nb) (hB : Sl w B (bvs r)) (hf : Fit m M) (hM : M ≤ 34359738368) (hr : r.length ≤ 1048576) (hc : c ≤ 1099511627776) :
    Ret Try.prog 67 #[.pointer (some ⟨nb, 0, none⟩), .slice B r.length rc] w fun v w' =>
      if s = true then v = .int .i64 52 ∧ Grow w w' else v = .int .i64 (m.nput r).1 ∧ Two X w' db d mb (m.nput r).2 ∧ IsNodeM w' nb mb (if (m.nput r).1 = 0 then c + 1 else c) (decide ((m.nput r).1 ≠ 0)) ∧ Chg (fun k => ¬ X k ∨ k = nb) w w' := by
  have hnb : Blk w nb #[.pointer (some ⟨mb, 0, none⟩), .int .i64 (c : Int), .bool s] 96 := hn
  have n1 : ¬ (fun k => ¬ X k) nb := fun h => h x1
  refine Ret.enter (fn := Try.f67) (N := 56) Try.func67 rfl Try.ntmps67 rfl ?_
  repeat (first | refine WL.nil ?_ | refine WL.auto (h := ?_) | refine WL.gskip rfl rfl rfl rfl ?_ | refine WL.gauto (h := ?_) | (refine CW.seq ?_; intro K hK) | refine CW.block ?_ | refine CW.region ?_ | refine CW.skip ?_ | refine CW.exit ?_ | refine CW.ret ?_ | (refine thn_ret (K := K) ?_; clear hK K) | refine thn_ret ?_ | refine blk_ret ?_ | (refine thn_exit (K := K) ?_; clear hK K) | refine thn_exit ?_ | refine blk_here ?_ | refine blk_past rfl ?_ | refine thn_norm ?_ | refine blk_norm ?_ | refine CW.condT rfl ?_ | refine CW.condF rfl ?_ | (refine hK _ _ ?_; clear hK K))
  cases s with
  | true =>
    repeat (first | refine WL.nil ?_ | refine WL.auto (h := ?_) | refine WL.gskip rfl rfl rfl rfl ?_ | refine WL.gauto (h := ?_) | (refine CW.seq ?_; intro K hK) | refine CW.block ?_ | refine CW.region ?_ | refine CW.skip ?_ | refine CW.exit ?_ | refine CW.ret ?_ | (refine thn_ret (K := K) ?_; clear hK K) | refine thn_ret ?_ | refine blk_ret ?_ | (refine thn_exit (K := K) ?_; clear hK K) | refine thn_exit ?_ | refine blk_here ?_ | refine blk_past rfl ?_ | refine thn_norm ?_ | refine blk_norm ?_ | refine CW.condT rfl ?_ | refine CW.condF rfl ?_ | (refine hK _ _ ?_; clear hK K))
    exact out1 (v := .int .i64 52) Try.results67 rfl (by rw [if_pos rfl]; exact ⟨rfl, Chg.refl _ _⟩) (Or.inr rfl)
  | false =>
    simp only [Bool.false_eq_true, if_false]
    repeat (first | refine WL.nil ?_ | refine WL.auto (h := ?_) | refine WL.gskip rfl rfl rfl rfl ?_ | refine WL.gauto (h := ?_) | (refine CW.seq ?_; intro K hK) | refine CW.block ?_ | refine CW.region ?_ | refine CW.skip ?_ | refine CW.exit ?_ | refine CW.ret ?_ | (refine thn_ret (K := K) ?_; clear hK K) | refine thn_ret ?_ | refine blk_ret ?_ | (refine thn_exit (K := K) ?_; clear hK K) | refine thn_exit ?_ | refine blk_here ?_ | refine blk_past rfl ?_ | refine thn_norm ?_ | refine blk_norm ?_ | refine CW.condT rfl ?_ | refine CW.condF rfl ?_ | (refine hK _ _ ?_; clear hK K))
    refine CW.held (fun k => ¬ X k) (.take 0 (.take 1 (.take 2 (.take 3 (.take 4 (.take 5 (.take 6 (.take 8 (.one 7 (.one 9 (.one 10 (.one 11 .nil)))))))))))) rfl (by kernel_rfl) (by kernel_rfl) (fun w1 g1 => ?_)
    repeat (first | refine AL.nil ?_ | refine AL.auto (hn := ?_) | refine AL.gskip rfl rfl rfl rfl rfl ?_ | refine AL.goneSkip rfl rfl rfl rfl rfl ?_ | refine AL.gauto (hn := ?_) | refine AL.oauto (hn := ?_))
    first | refine AL.one rfl rfl ?_ | refine AL.gone rfl rfl rfl rfl rfl ?_
    refine OpW.call ((N27 none 0 [] r.length w1 (Sl.nil _ _) (by simp)).mono ?_) rfl
    rintro v w2 ⟨A2, c2, rfl, o2, g2⟩
    have hp : putN [] r.length = beN r.length := rfl
    rw [hp] at o2 ⊢
    refine ⟨fun h => h.grow g2, ?_⟩
    repeat (first | refine AL.nil ?_ | refine AL.auto (hn := ?_) | refine AL.gskip rfl rfl rfl rfl rfl ?_ | refine AL.goneSkip rfl rfl rfl rfl rfl ?_ | refine AL.gauto (hn := ?_) | refine AL.oauto (hn := ?_))
    first | refine AL.one rfl rfl ?_ | refine AL.gone rfl rfl rfl rfl rfl ?_
    refine OpW.appB (w0 := w1) (l := beN r.length) (m := r) rfl rfl rfl rfl rfl rfl o2 (hB.grow (g1.then g2)) g2 (by rw [beN_length]; omega) (fun A4 c4 w4 o4 g4 k4 => ?_)
    refine ⟨fun h' => h'.andThen (k4.mono fun k _ ⟨a, ha, e⟩ hx => by
      have q1 := h.lt hx
      have q2 : w1.heap.size ≤ a.block := (o2.in_ ha).1
      have q3 := g1.size
      omega), ?_⟩
    have gw4 := g1.then g4
    have h4 := h.more gw4
    have hw1 : w.heap.size ≤ w1.heap.size := g1.size
    repeat (first | refine AL.nil ?_ | refine AL.auto (hn := ?_) | refine AL.gskip rfl rfl rfl rfl rfl ?_ | refine AL.goneSkip rfl rfl rfl rfl rfl ?_ | refine AL.gauto (hn := ?_) | refine AL.oauto (hn := ?_))
    first | refine AL.one rfl rfl ?_ | refine AL.gone rfl rfl rfl rfl rfl ?_
    refine OpW.call ((appendTM h4 sLog (beN r.length ++ r) A4 c4 hf (by omega) (by decide) o4.sl (fun _ a ha => Or.inr ⟨Nat.le_trans hw1 (o4.in_ ha).1, (o4.in_ ha).2⟩) (by simp [beN_length]; omega)).mono ?_) rfl
    rintro v w5 ⟨rfl, h5, c5⟩
    have c5' : Chg (fun k => ¬ X k) w4 w5 := c5.mono fun k _ hk hx => hk (Or.inl hx)
    refine ⟨fun h => h.andThen c5', ?_⟩
    replace h5 : Two X w5 db d mb _ := h5.less fun _ h => Or.inl h
    replace c5 : Chg (fun k => ¬ X k) w w5 := Grow.chg gw4 c5'
    have hf5 := hf.append sLog (beN r.length ++ r)
    have hl5 : (beN r.length ++ r).length = r.length + 8 := by simp [beN_length]; omega
    rw [hl5] at hf5
    have hgo : m.nput r = if (m.append sLog (beN r.length ++ r)).1 ≠ 0 then m.append sLog (beN r.length ++ r) else if ((m.append sLog (beN r.length ++ r)).2.sync sLog).1 ≠ 0 then (m.append sLog (beN r.length ++ r)).2.sync sLog else if (((m.append sLog (beN r.length ++ r)).2.sync sLog).2.append sMarks [1]).1 ≠ 0 then ((m.append sLog (beN r.length ++ r)).2.sync sLog).2.append sMarks [1] else (((m.append sLog (beN r.length ++ r)).2.sync sLog).2.append sMarks [1]).2.sync sMarks := rfl
    clear h4 o2 o4 k4
    generalize m.append sLog (beN r.length ++ r) = q at *
    obtain ⟨e5, d5⟩ := q
    simp only at h5 hf5 hgo
    repeat (first | refine AL.nil ?_ | refine AL.auto (hn := ?_) | refine AL.gskip rfl rfl rfl rfl rfl ?_ | refine AL.goneSkip rfl rfl rfl rfl rfl ?_ | refine AL.gauto (hn := ?_) | refine AL.oauto (hn := ?_))
    repeat (first | refine WL.nil ?_ | refine WL.auto (h := ?_) | refine WL.gskip rfl rfl rfl rfl ?_ | refine WL.gauto (h := ?_) | (refine CW.seq ?_; intro K hK) | refine CW.block ?_ | refine CW.region ?_ | refine CW.skip ?_ | refine CW.exit ?_ | refine CW.ret ?_ | (refine thn_ret (K := K) ?_; clear hK K) | refine thn_ret ?_ | refine blk_ret ?_ | (refine thn_exit (K := K) ?_; clear hK K) | refine thn_exit ?_ | refine blk_here ?_ | refine blk_past rfl ?_ | refine thn_norm ?_ | refine blk_norm ?_ | refine CW.condT rfl ?_ | refine CW.condF rfl ?_ | (refine hK _ _ ?_; clear hK K))
    refine CW.condP rfl (fun he => ?_) (fun he => ?_)
    · subst he
      rw [if_neg (by simp)] at hgo
      have bn6 : IsNodeM w5 nb mb c false := Blk.keep hn c5 fun hn => hn x1
      have bn6' : Blk w5 nb #[.pointer (some ⟨mb, 0, none⟩), .int .i64 (c : Int), .bool false] 96 := bn6
      repeat (first | refine WL.nil ?_ | refine WL.auto (h := ?_) | refine WL.gskip rfl rfl rfl rfl ?_ | refine WL.gauto (h := ?_) | (refine CW.seq ?_; intro K hK) | refine CW.block ?_ | refine CW.region ?_ | refine CW.skip ?_ | refine CW.exit ?_ | refine CW.ret ?_ | (refine thn_ret (K := K) ?_; clear hK K) | refine thn_ret ?_ | refine blk_ret ?_ | (refine thn_exit (K := K) ?_; clear hK K) | refine thn_exit ?_ | refine blk_here ?_ | refine blk_past rfl ?_ | refine thn_norm ?_ | refine blk_norm ?_ | refine CW.condT rfl ?_ | refine CW.condF rfl ?_ | (refine hK _ _ ?_; clear hK K))
      first | refine WL.step rfl ?_ | refine WL.gstep rfl rfl rfl rfl ?_
      refine OpW.call ((syncTM h5 sLog hf5).mono ?_) rfl
      rintro v w6 ⟨rfl, h6, c6⟩
      have hf6 := hf5.sync sLog
      replace c6 := c5.andThen c6
      clear h5 c5 hf5 bn6 bn6'
      generalize d5.sync sLog = q at *
      obtain ⟨e5, d6⟩ := q
      simp only at h6 hf6 hgo
      repeat (first | refine WL.nil ?_ | refine WL.auto (h := ?_) | refine WL.gskip rfl rfl rfl rfl ?_ | refine WL.gauto (h := ?_) | (refine CW.seq ?_; intro K hK) | refine CW.block ?_ | refine CW.region ?_ | refine CW.skip ?_ | refine CW.exit ?_ | refine CW.ret ?_ | (refine thn_ret (K := K) ?_; clear hK K) | refine thn_ret ?_ | refine blk_ret ?_ | (refine thn_exit (K := K) ?_; clear hK K) | refine thn_exit ?_ | refine blk_here ?_ | refine blk_past rfl ?_ | refine thn_norm ?_ | refine blk_norm ?_ | refine CW.condT rfl ?_ | refine CW.condF rfl ?_ | (refine hK _ _ ?_; clear hK K))
      refine CW.condP rfl (fun he => ?_) (fun he => ?_)
      · subst he
        rw [if_neg (by simp)] at hgo
        have bn7 : Blk w6 nb #[.pointer (some ⟨mb, 0, none⟩), .int .i64 (c : Int), .bool false] 96 := Blk.keep hnb c6 fun hn => hn x1
        repeat (first | refine WL.nil ?_ | refine WL.auto (h := ?_) | refine WL.gskip rfl rfl rfl rfl ?_ | refine WL.gauto (h := ?_) | (refine CW.seq ?_; intro K hK) | refine CW.block ?_ | refine CW.region ?_ | refine CW.skip ?_ | refine CW.exit ?_ | refine CW.ret ?_ | (refine thn_ret (K := K) ?_; clear hK K) | refine thn_ret ?_ | refine blk_ret ?_ | (refine thn_exit (K := K) ?_; clear hK K) | refine thn_exit ?_ | refine blk_here ?_ | refine blk_past rfl ?_ | refine thn_norm ?_ | refine blk_norm ?_ | refine CW.condT rfl ?_ | refine CW.condF rfl ?_ | (refine hK _ _ ?_; clear hK K))
        first | refine WL.step rfl ?_ | refine WL.gstep rfl rfl rfl rfl ?_
        refine OpW.buildLit [bv 1] rfl rfl rfl (lit1 _ rfl) ?_
        intro b1 w7 n1
        have h7 := h6.more n1.grow
        repeat (first | refine WL.nil ?_ | refine WL.auto (h := ?_) | refine WL.gskip rfl rfl rfl rfl ?_ | refine WL.gauto (h := ?_) | (refine CW.seq ?_; intro K hK) | refine CW.block ?_ | refine CW.region ?_ | refine CW.skip ?_ | refine CW.exit ?_ | refine CW.ret ?_ | (refine thn_ret (K := K) ?_; clear hK K) | refine thn_ret ?_ | refine blk_ret ?_ | (refine thn_exit (K := K) ?_; clear hK K) | refine thn_exit ?_ | refine blk_here ?_ | refine blk_past rfl ?_ | refine thn_norm ?_ | refine blk_norm ?_ | refine CW.condT rfl ?_ | refine CW.condF rfl ?_ | (refine hK _ _ ?_; clear hK K))
        first | refine WL.step rfl ?_ | refine WL.gstep rfl rfl rfl rfl ?_
        refine OpW.call ((appendTM h7 sMarks [1] _ _ hf6 (by omega) (by decide) (blk_sl_lit (vs := [bv 1]) n1) (fun _ a ha => by cases ha; exact Or.inr ⟨n1.fresh, n1.blk.lt⟩) (by decide)).mono ?_) rfl
        rintro v w8 ⟨rfl, h8, c8⟩
        replace h8 : Two X w8 db d mb _ := h8.less fun _ h => Or.inl h
        replace c8 : Chg (fun k => ¬ X k) w w8 := c6.andThen (Grow.chg n1.grow (c8.mono fun k _ hk hx => hk (Or.inl hx)))
        have hf8 := hf6.append sMarks [1]
        clear h7 h6 c6 hf6
        generalize d6.append sMarks [1] = q at *
        obtain ⟨e5, d8⟩ := q
        simp only at h8 hf8 hgo
        repeat (first | refine WL.nil ?_ | refine WL.auto (h := ?_) | refine WL.gskip rfl rfl rfl rfl ?_ | refine WL.gauto (h := ?_) | (refine CW.seq ?_; intro K hK) | refine CW.block ?_ | refine CW.region ?_ | refine CW.skip ?_ | refine CW.exit ?_ | refine CW.ret ?_ | (refine thn_ret (K := K) ?_; clear hK K) | refine thn_ret ?_ | refine blk_ret ?_ | (refine thn_exit (K := K) ?_; clear hK K) | refine thn_exit ?_ | refine blk_here ?_ | refine blk_past rfl ?_ | refine thn_norm ?_ | refine blk_norm ?_ | refine CW.condT rfl ?_ | refine CW.condF rfl ?_ | (refine hK _ _ ?_; clear hK K))
        refine CW.condP rfl (fun he => ?_) (fun he => ?_)
        · subst he
          rw [if_neg (by simp)] at hgo
          have bn8 : Blk w8 nb #[.pointer (some ⟨mb, 0, none⟩), .int .i64 (c : Int), .bool false] 96 := Blk.keep hnb c8 fun hn => hn x1
          repeat (first | refine WL.nil ?_ | refine WL.auto (h := ?_) | refine WL.gskip rfl rfl rfl rfl ?_ | refine WL.gauto (h := ?_) | (refine CW.seq ?_; intro K hK) | refine CW.block ?_ | refine CW.region ?_ | refine CW.skip ?_ | refine CW.exit ?_ | refine CW.ret ?_ | (refine thn_ret (K := K) ?_; clear hK K) | refine thn_ret ?_ | refine blk_ret ?_ | (refine thn_exit (K := K) ?_; clear hK K) | refine thn_exit ?_ | refine blk_here ?_ | refine blk_past rfl ?_ | refine thn_norm ?_ | refine blk_norm ?_ | refine CW.condT rfl ?_ | refine CW.condF rfl ?_ | (refine hK _ _ ?_; clear hK K))
          first | refine WL.step rfl ?_ | refine WL.gstep rfl rfl rfl rfl ?_
          refine OpW.call ((syncTM h8 sMarks hf8).mono ?_) rfl
          rintro v w5 ⟨rfl, h5, c5⟩
          replace c5 := c8.andThen c5
          clear h8 c8 hf8
          generalize d8.sync sMarks = q at *
          obtain ⟨e5, d5⟩ := q
          simp only at h5 hgo
          by_cases he : e5 = 0
          · subst he
            have bn5 : Blk w5 nb #[.pointer (some ⟨mb, 0, none⟩), .int .i64 (c : Int), .bool false] 96 := Blk.keep hnb c5 fun hn => hn x1
            repeat (first | refine WL.nil ?_ | refine WL.auto (h := ?_) | refine WL.gskip rfl rfl rfl rfl ?_ | refine WL.gauto (h := ?_) | (refine CW.seq ?_; intro K hK) | refine CW.block ?_ | refine CW.region ?_ | refine CW.skip ?_ | refine CW.exit ?_ | refine CW.ret ?_ | (refine thn_ret (K := K) ?_; clear hK K) | refine thn_ret ?_ | refine blk_ret ?_ | (refine thn_exit (K := K) ?_; clear hK K) | refine thn_exit ?_ | refine blk_here ?_ | refine blk_past rfl ?_ | refine thn_norm ?_ | refine blk_norm ?_ | refine CW.condT rfl ?_ | refine CW.condF rfl ?_ | (refine hK _ _ ?_; clear hK K))
            refine WL.step0 ?_
            refine OpW.store (v := .int _ _) rfl rfl rfl bn5 rfl (c' := #[_, _, _]) rfl ?_
            intro w7 hp7 hb7
            repeat (first | refine WL.nil ?_ | refine WL.auto (h := ?_) | refine WL.gskip rfl rfl rfl rfl ?_ | refine WL.gauto (h := ?_) | (refine CW.seq ?_; intro K hK) | refine CW.block ?_ | refine CW.region ?_ | refine CW.skip ?_ | refine CW.exit ?_ | refine CW.ret ?_ | (refine thn_ret (K := K) ?_; clear hK K) | refine thn_ret ?_ | refine blk_ret ?_ | (refine thn_exit (K := K) ?_; clear hK K) | refine thn_exit ?_ | refine blk_here ?_ | refine blk_past rfl ?_ | refine thn_norm ?_ | refine blk_norm ?_ | refine CW.condT rfl ?_ | refine CW.condF rfl ?_ | (refine hK _ _ ?_; clear hK K))
            refine out1 (v := .int .i64 0) Try.results67 rfl ?_ (Or.inr rfl)
            rw [if_neg (by simp), hgo]
            exact ⟨rfl, h5.keep (hp7.chg.mono fun k _ hk => by rw [hk]; exact x1), hb7, (c5.mono fun k _ hk => Or.inl hk).andThen (hp7.chg.mono fun k _ hk => Or.inr hk)⟩
          · (
  repeat (first | refine WL.nil ?_ | refine WL.auto (h := ?_) | refine WL.gskip rfl rfl rfl rfl ?_ | refine WL.gauto (h := ?_) | (refine CW.seq ?_; intro K hK) | refine CW.block ?_ | refine CW.region ?_ | refine CW.skip ?_ | refine CW.exit ?_ | refine CW.ret ?_ | (refine thn_ret (K := K) ?_; clear hK K) | refine thn_ret ?_ | refine blk_ret ?_ | (refine thn_exit (K := K) ?_; clear hK K) | refine thn_exit ?_ | refine blk_here ?_ | refine blk_past rfl ?_ | refine thn_norm ?_ | refine blk_norm ?_ | refine CW.condT rfl ?_ | refine CW.condF rfl ?_ | (refine hK _ _ ?_; clear hK K))
  refine CW.condP rfl (fun _ => ?_) (fun h => absurd he h)
  have bn5 := hnb.keep c5 fun hn => hn x1
  repeat (first | refine WL.nil ?_ | refine WL.auto (h := ?_) | refine WL.gskip rfl rfl rfl rfl ?_ | refine WL.gauto (h := ?_) | (refine CW.seq ?_; intro K hK) | refine CW.block ?_ | refine CW.region ?_ | refine CW.skip ?_ | refine CW.exit ?_ | refine CW.ret ?_ | (refine thn_ret (K := K) ?_; clear hK K) | refine thn_ret ?_ | refine blk_ret ?_ | (refine thn_exit (K := K) ?_; clear hK K) | refine thn_exit ?_ | refine blk_here ?_ | refine blk_past rfl ?_ | refine thn_norm ?_ | refine blk_norm ?_ | refine CW.condT rfl ?_ | refine CW.condF rfl ?_ | (refine hK _ _ ?_; clear hK K))
  refine WL.step0 ?_
  refine OpW.store (v := .bool _) rfl rfl rfl bn5 rfl (c' := #[_, _, _]) rfl ?_
  intro w7 hp7 hb7
  repeat (first | refine WL.nil ?_ | refine WL.auto (h := ?_) | refine WL.gskip rfl rfl rfl rfl ?_ | refine WL.gauto (h := ?_) | (refine CW.seq ?_; intro K hK) | refine CW.block ?_ | refine CW.region ?_ | refine CW.skip ?_ | refine CW.exit ?_ | refine CW.ret ?_ | (refine thn_ret (K := K) ?_; clear hK K) | refine thn_ret ?_ | refine blk_ret ?_ | (refine thn_exit (K := K) ?_; clear hK K) | refine thn_exit ?_ | refine blk_here ?_ | refine blk_past rfl ?_ | refine thn_norm ?_ | refine blk_norm ?_ | refine CW.condT rfl ?_ | refine CW.condF rfl ?_ | (refine hK _ _ ?_; clear hK K))
  refine out1 (v := .int .i64 e5) Try.results67 rfl ?_ (Or.inr rfl)
  rw [if_neg (by simp), hgo]
  refine ⟨rfl, h5.keep (hp7.chg.mono fun k _ hk => by rw [hk]; exact x1), ?_, (c5.mono fun k _ hk => Or.inl hk).andThen (hp7.chg.mono fun k _ hk => Or.inr hk)⟩
  simp only [he, if_false, decide_true, ne_eq, not_false_eq_true]
  exact hb7)
        · rw [if_pos he] at hgo
          have h5 := h8
          have c5 := c8
          (
  repeat (first | refine WL.nil ?_ | refine WL.auto (h := ?_) | refine WL.gskip rfl rfl rfl rfl ?_ | refine WL.gauto (h := ?_) | (refine CW.seq ?_; intro K hK) | refine CW.block ?_ | refine CW.region ?_ | refine CW.skip ?_ | refine CW.exit ?_ | refine CW.ret ?_ | (refine thn_ret (K := K) ?_; clear hK K) | refine thn_ret ?_ | refine blk_ret ?_ | (refine thn_exit (K := K) ?_; clear hK K) | refine thn_exit ?_ | refine blk_here ?_ | refine blk_past rfl ?_ | refine thn_norm ?_ | refine blk_norm ?_ | refine CW.condT rfl ?_ | refine CW.condF rfl ?_ | (refine hK _ _ ?_; clear hK K))
  refine CW.condP rfl (fun _ => ?_) (fun h => absurd he h)
  have bn5 := hnb.keep c5 fun hn => hn x1
  repeat (first | refine WL.nil ?_ | refine WL.auto (h := ?_) | refine WL.gskip rfl rfl rfl rfl ?_ | refine WL.gauto (h := ?_) | (refine CW.seq ?_; intro K hK) | refine CW.block ?_ | refine CW.region ?_ | refine CW.skip ?_ | refine CW.exit ?_ | refine CW.ret ?_ | (refine thn_ret (K := K) ?_; clear hK K) | refine thn_ret ?_ | refine blk_ret ?_ | (refine thn_exit (K := K) ?_; clear hK K) | refine thn_exit ?_ | refine blk_here ?_ | refine blk_past rfl ?_ | refine thn_norm ?_ | refine blk_norm ?_ | refine CW.condT rfl ?_ | refine CW.condF rfl ?_ | (refine hK _ _ ?_; clear hK K))
  refine WL.step0 ?_
  refine OpW.store (v := .bool _) rfl rfl rfl bn5 rfl (c' := #[_, _, _]) rfl ?_
  intro w7 hp7 hb7
  repeat (first | refine WL.nil ?_ | refine WL.auto (h := ?_) | refine WL.gskip rfl rfl rfl rfl ?_ | refine WL.gauto (h := ?_) | (refine CW.seq ?_; intro K hK) | refine CW.block ?_ | refine CW.region ?_ | refine CW.skip ?_ | refine CW.exit ?_ | refine CW.ret ?_ | (refine thn_ret (K := K) ?_; clear hK K) | refine thn_ret ?_ | refine blk_ret ?_ | (refine thn_exit (K := K) ?_; clear hK K) | refine thn_exit ?_ | refine blk_here ?_ | refine blk_past rfl ?_ | refine thn_norm ?_ | refine blk_norm ?_ | refine CW.condT rfl ?_ | refine CW.condF rfl ?_ | (refine hK _ _ ?_; clear hK K))
  refine out1 (v := .int .i64 e5) Try.results67 rfl ?_ (Or.inr rfl)
  rw [if_neg (by simp), hgo]
  refine ⟨rfl, h5.keep (hp7.chg.mono fun k _ hk => by rw [hk]; exact x1), ?_, (c5.mono fun k _ hk => Or.inl hk).andThen (hp7.chg.mono fun k _ hk => Or.inr hk)⟩
  simp only [he, if_false, decide_true, ne_eq, not_false_eq_true]
  exact hb7)
      · rw [if_pos he] at hgo
        have h5 := h6
        have c5 := c6
        (
  repeat (first | refine WL.nil ?_ | refine WL.auto (h := ?_) | refine WL.gskip rfl rfl rfl rfl ?_ | refine WL.gauto (h := ?_) | (refine CW.seq ?_; intro K hK) | refine CW.block ?_ | refine CW.region ?_ | refine CW.skip ?_ | refine CW.exit ?_ | refine CW.ret ?_ | (refine thn_ret (K := K) ?_; clear hK K) | refine thn_ret ?_ | refine blk_ret ?_ | (refine thn_exit (K := K) ?_; clear hK K) | refine thn_exit ?_ | refine blk_here ?_ | refine blk_past rfl ?_ | refine thn_norm ?_ | refine blk_norm ?_ | refine CW.condT rfl ?_ | refine CW.condF rfl ?_ | (refine hK _ _ ?_; clear hK K))
  refine CW.condP rfl (fun h => absurd h he) (fun _ => ?_))
        (
  repeat (first | refine WL.nil ?_ | refine WL.auto (h := ?_) | refine WL.gskip rfl rfl rfl rfl ?_ | refine WL.gauto (h := ?_) | (refine CW.seq ?_; intro K hK) | refine CW.block ?_ | refine CW.region ?_ | refine CW.skip ?_ | refine CW.exit ?_ | refine CW.ret ?_ | (refine thn_ret (K := K) ?_; clear hK K) | refine thn_ret ?_ | refine blk_ret ?_ | (refine thn_exit (K := K) ?_; clear hK K) | refine thn_exit ?_ | refine blk_here ?_ | refine blk_past rfl ?_ | refine thn_norm ?_ | refine blk_norm ?_ | refine CW.condT rfl ?_ | refine CW.condF rfl ?_ | (refine hK _ _ ?_; clear hK K))
  refine CW.condP rfl (fun _ => ?_) (fun h => absurd he h)
  have bn5 := hnb.keep c5 fun hn => hn x1
  repeat (first | refine WL.nil ?_ | refine WL.auto (h := ?_) | refine WL.gskip rfl rfl rfl rfl ?_ | refine WL.gauto (h := ?_) | (refine CW.seq ?_; intro K hK) | refine CW.block ?_ | refine CW.region ?_ | refine CW.skip ?_ | refine CW.exit ?_ | refine CW.ret ?_ | (refine thn_ret (K := K) ?_; clear hK K) | refine thn_ret ?_ | refine blk_ret ?_ | (refine thn_exit (K := K) ?_; clear hK K) | refine thn_exit ?_ | refine blk_here ?_ | refine blk_past rfl ?_ | refine thn_norm ?_ | refine blk_norm ?_ | refine CW.condT rfl ?_ | refine CW.condF rfl ?_ | (refine hK _ _ ?_; clear hK K))
  refine WL.step0 ?_
  refine OpW.store (v := .bool _) rfl rfl rfl bn5 rfl (c' := #[_, _, _]) rfl ?_
  intro w7 hp7 hb7
  repeat (first | refine WL.nil ?_ | refine WL.auto (h := ?_) | refine WL.gskip rfl rfl rfl rfl ?_ | refine WL.gauto (h := ?_) | (refine CW.seq ?_; intro K hK) | refine CW.block ?_ | refine CW.region ?_ | refine CW.skip ?_ | refine CW.exit ?_ | refine CW.ret ?_ | (refine thn_ret (K := K) ?_; clear hK K) | refine thn_ret ?_ | refine blk_ret ?_ | (refine thn_exit (K := K) ?_; clear hK K) | refine thn_exit ?_ | refine blk_here ?_ | refine blk_past rfl ?_ | refine thn_norm ?_ | refine blk_norm ?_ | refine CW.condT rfl ?_ | refine CW.condF rfl ?_ | (refine hK _ _ ?_; clear hK K))
  refine out1 (v := .int .i64 e5) Try.results67 rfl ?_ (Or.inr rfl)
  rw [if_neg (by simp), hgo]
  refine ⟨rfl, h5.keep (hp7.chg.mono fun k _ hk => by rw [hk]; exact x1), ?_, (c5.mono fun k _ hk => Or.inl hk).andThen (hp7.chg.mono fun k _ hk => Or.inr hk)⟩
  simp only [he, if_false, decide_true, ne_eq, not_false_eq_true]
  exact hb7)
    · rw [if_pos he] at hgo
      (
  repeat (first | refine WL.nil ?_ | refine WL.auto (h := ?_) | refine WL.gskip rfl rfl rfl rfl ?_ | refine WL.gauto (h := ?_) | (refine CW.seq ?_; intro K hK) | refine CW.block ?_ | refine CW.region ?_ | refine CW.skip ?_ | refine CW.exit ?_ | refine CW.ret ?_ | (refine thn_ret (K := K) ?_; clear hK K) | refine thn_ret ?_ | refine blk_ret ?_ | (refine thn_exit (K := K) ?_; clear hK K) | refine thn_exit ?_ | refine blk_here ?_ | refine blk_past rfl ?_ | refine thn_norm ?_ | refine blk_norm ?_ | refine CW.condT rfl ?_ | refine CW.condF rfl ?_ | (refine hK _ _ ?_; clear hK K))
  refine CW.condP rfl (fun h => absurd h he) (fun _ => ?_))
      (
  repeat (first | refine WL.nil ?_ | refine WL.auto (h := ?_) | refine WL.gskip rfl rfl rfl rfl ?_ | refine WL.gauto (h := ?_) | (refine CW.seq ?_; intro K hK) | refine CW.block ?_ | refine CW.region ?_ | refine CW.skip ?_ | refine CW.exit ?_ | refine CW.ret ?_ | (refine thn_ret (K := K) ?_; clear hK K) | refine thn_ret ?_ | refine blk_ret ?_ | (refine thn_exit (K := K) ?_; clear hK K) | refine thn_exit ?_ | refine blk_here ?_ | refine blk_past rfl ?_ | refine thn_norm ?_ | refine blk_norm ?_ | refine CW.condT rfl ?_ | refine CW.condF rfl ?_ | (refine hK _ _ ?_; clear hK K))
  refine CW.condP rfl (fun h => absurd h he) (fun _ => ?_))
      (
  repeat (first | refine WL.nil ?_ | refine WL.auto (h := ?_) | refine WL.gskip rfl rfl rfl rfl ?_ | refine WL.gauto (h := ?_) | (refine CW.seq ?_; intro K hK) | refine CW.block ?_ | refine CW.region ?_ | refine CW.skip ?_ | refine CW.exit ?_ | refine CW.ret ?_ | (refine thn_ret (K := K) ?_; clear hK K) | refine thn_ret ?_ | refine blk_ret ?_ | (refine thn_exit (K := K) ?_; clear hK K) | refine thn_exit ?_ | refine blk_here ?_ | refine blk_past rfl ?_ | refine thn_norm ?_ | refine blk_norm ?_ | refine CW.condT rfl ?_ | refine CW.condF rfl ?_ | (refine hK _ _ ?_; clear hK K))
  refine CW.condP rfl (fun _ => ?_) (fun h => absurd he h)
  have bn5 := hnb.keep c5 fun hn => hn x1
  repeat (first | refine WL.nil ?_ | refine WL.auto (h := ?_) | refine WL.gskip rfl rfl rfl rfl ?_ | refine WL.gauto (h := ?_) | (refine CW.seq ?_; intro K hK) | refine CW.block ?_ | refine CW.region ?_ | refine CW.skip ?_ | refine CW.exit ?_ | refine CW.ret ?_ | (refine thn_ret (K := K) ?_; clear hK K) | refine thn_ret ?_ | refine blk_ret ?_ | (refine thn_exit (K := K) ?_; clear hK K) | refine thn_exit ?_ | refine blk_here ?_ | refine blk_past rfl ?_ | refine thn_norm ?_ | refine blk_norm ?_ | refine CW.condT rfl ?_ | refine CW.condF rfl ?_ | (refine hK _ _ ?_; clear hK K))
  refine WL.step0 ?_
  refine OpW.store (v := .bool _) rfl rfl rfl bn5 rfl (c' := #[_, _, _]) rfl ?_
  intro w7 hp7 hb7
  repeat (first | refine WL.nil ?_ | refine WL.auto (h := ?_) | refine WL.gskip rfl rfl rfl rfl ?_ | refine WL.gauto (h := ?_) | (refine CW.seq ?_; intro K hK) | refine CW.block ?_ | refine CW.region ?_ | refine CW.skip ?_ | refine CW.exit ?_ | refine CW.ret ?_ | (refine thn_ret (K := K) ?_; clear hK K) | refine thn_ret ?_ | refine blk_ret ?_ | (refine thn_exit (K := K) ?_; clear hK K) | refine thn_exit ?_ | refine blk_here ?_ | refine blk_past rfl ?_ | refine thn_norm ?_ | refine blk_norm ?_ | refine CW.condT rfl ?_ | refine CW.condF rfl ?_ | (refine hK _ _ ?_; clear hK K))
  refine out1 (v := .int .i64 e5) Try.results67 rfl ?_ (Or.inr rfl)
  rw [if_neg (by simp), hgo]
  refine ⟨rfl, h5.keep (hp7.chg.mono fun k _ hk => by rw [hk]; exact x1), ?_, (c5.mono fun k _ hk => Or.inl hk).andThen (hp7.chg.mono fun k _ hk => Or.inr hk)⟩
  simp only [he, if_false, decide_true, ne_eq, not_false_eq_true]
  exact hb7)
end B
end Go.Proofs.Ytlofcomnhecgfaa
/- Plain: what Open finds. -/
namespace Go.Proofs.Ytlofcomnhecgfaa
namespace B
set_option linter.unusedVariables false
set_option linter.unusedSimpArgs false
set_option maxRecDepth 4000

theorem nopen_some {d : PD} {M : Nat} (h : Fit d M) {rs : List (List UInt8)} {e : Int} {d' : PD} (hn : d.nopen = (some rs, e, d')) : e = 0 ∧ rs.length ≤ M ∧ ∀ r ∈ rs, r.length ≤ M := by
  have lm := read1_len h sMarks
  have ll := read1_len h sLog
  have e0 : d.nopen = if (d.read1 sMarks).2.2 ≠ 0 then (none, (d.read1 sMarks).2.2, d) else if (d.read1 sLog).2.2 ≠ 0 then (none, (d.read1 sLog).2.2, d) else
      match cutN (d.read1 sLog).1 (ones (d.read1 sMarks).1) with
      | none => (none, 52, d)
      | some p => if (d.settled (d.read1 sMarks) (d.read1 sLog) (ones (d.read1 sMarks).1) p.2).1 ≠ 0 then (none, (d.settled (d.read1 sMarks) (d.read1 sLog) (ones (d.read1 sMarks).1) p.2).1, (d.settled (d.read1 sMarks) (d.read1 sLog) (ones (d.read1 sMarks).1) p.2).2) else (some p.1, 0, (d.settled (d.read1 sMarks) (d.read1 sLog) (ones (d.read1 sMarks).1) p.2).2) := rfl
  rw [e0] at hn
  clear e0
  split at hn
  · cases hn
  · split at hn
    · cases hn
    · split at hn
      · cases hn
      · rename_i p hp
        split at hn
        · cases hn
        · cases hn
          obtain ⟨q1, q2, q3, q4⟩ := cutN_len hp
          have := ones_le (d.read1 sMarks).1
          exact ⟨rfl, by omega, fun r hr => by have := q4 r hr; omega⟩
end B
end Go.Proofs.Ytlofcomnhecgfaa
