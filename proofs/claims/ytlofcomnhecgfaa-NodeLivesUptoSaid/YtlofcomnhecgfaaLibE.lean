/- Rules and contracts, put together out of smaller texts. Each part tells its conditions. -/
import Derived.Test.YtlofcomnhecgfaaLibD
/- Plain: records on a disk, as a node finds and puts them. -/
namespace Go.Proofs.Ytlofcomnhecgfaa
namespace B
set_option linter.unusedVariables false
set_option linter.unusedSimpArgs false
set_option maxRecDepth 4000

def sLog : List UInt8 := [108, 111, 103]
def sMarks : List UInt8 := [109, 97, 114, 107, 115]
/-- The first record of bytes, and what stands behind it. -/
def cutOne (b : List UInt8) : Option (List UInt8 × List UInt8) :=
  if b.length < 8 then none else if b.length - 8 < numOf (b.take 8) then none else some ((b.drop 8).take (numOf (b.take 8)), b.drop (8 + numOf (b.take 8)))
/-- So many records from the front, and what stands behind them. -/
def cutN (b : List UInt8) : Nat → Option (List (List UInt8) × List UInt8)
  | 0 => some ([], b)
  | n + 1 => match cutN b n with
    | none => none
    | some p => match cutOne p.2 with
      | none => none
      | some q => some (p.1 ++ [q.1], q.2)
theorem cutN_none {b : List UInt8} {n m : Nat} (h : cutN b n = none) (hm : n ≤ m) : cutN b m = none := by
  induction m with
  | zero => obtain rfl : n = 0 := by omega
            exact h
  | succ m ih =>
    by_cases e : n = m + 1
    · rw [← e]; exact h
    · rw [cutN, ih (by omega)]
theorem cutOne_len {b : List UInt8} {q : List UInt8 × List UInt8} (h : cutOne b = some q) : q.1.length + q.2.length + 8 = b.length := by
  unfold cutOne at h
  split at h
  · cases h
  · split at h
    · cases h
    · cases h
      simp only [List.length_take, List.length_drop]
      omega
theorem cutN_len {b : List UInt8} : ∀ {n : Nat} {p : List (List UInt8) × List UInt8}, cutN b n = some p → p.1.length = n ∧ p.2.length + 8 * n ≤ b.length ∧ (p.1.map List.length).sum + p.2.length + 8 * n = b.length ∧ ∀ r ∈ p.1, r.length ≤ b.length := by
  intro n
  induction n with
  | zero => intro p h; cases h; simp
  | succ n ih =>
    intro p h
    rw [cutN] at h
    cases hc : cutN b n with
    | none => rw [hc] at h; cases h
    | some p' =>
      rw [hc] at h
      simp only at h
      cases hq : cutOne p'.2 with
      | none => rw [hq] at h; cases h
      | some q =>
        rw [hq] at h
        cases h
        obtain ⟨h1, h2, h3, h4⟩ := ih hc
        have h5 := cutOne_len hq
        refine ⟨by simp [h1], by simp only; omega, ?_, fun r hr => ?_⟩
        · simp only [List.map_append, List.sum_append, List.map_cons, List.map_nil, List.sum_cons, List.sum_nil]; omega
        · rcases List.mem_append.1 hr with hr | hr
          · exact h4 r hr
          · rw [List.mem_singleton.1 hr]; omega
/-- How many marks stand at the front. -/
def ones (l : List UInt8) : Nat := (l.takeWhile (fun c => decide (c = 1))).length
theorem ones_le (l : List UInt8) : ones l ≤ l.length := (List.takeWhile_sublist _).length_le
def PD.read1 (d : PD) (s : List UInt8) : List UInt8 × Bool × Int :=
  let r := d.read s
  if r.2 = 50 then ([], false, 0) else (r.1, true, r.2)
def PD.settle (d : PD) (s : List UInt8) (has n : Nat) : Int × PD :=
  if n < has then (let r := d.truncate s n; if r.1 ≠ 0 then r else r.2.sync s) else d.sync s
/-- What Open does behind the records: the error, the disk. -/
def PD.settled2 (r1 : Int × PD) (l : List UInt8 × Bool × Int) (rest : List UInt8) : Int × PD := if l.2.1 = true ∧ r1.1 = 0 then r1.2.settle sLog l.1.length (l.1.length - rest.length) else r1
def PD.settled1 (d : PD) (m : List UInt8 × Bool × Int) (n : Nat) : Int × PD := if m.2.1 = true then d.settle sMarks m.1.length n else (0, d)
def PD.settled (d : PD) (m l : List UInt8 × Bool × Int) (n : Nat) (rest : List UInt8) : Int × PD := PD.settled2 (d.settled1 m n) l rest
/-- Open: the records, where there are any; the error; the disk. -/
def PD.nopen (d : PD) : Option (List (List UInt8)) × Int × PD :=
  let m := d.read1 sMarks
  if m.2.2 ≠ 0 then (none, m.2.2, d) else
    let l := d.read1 sLog
    if l.2.2 ≠ 0 then (none, l.2.2, d) else
      match cutN l.1 (ones m.1) with
      | none => (none, 52, d)
      | some p =>
        let r := d.settled m l (ones m.1) p.2
        if r.1 ≠ 0 then (none, r.1, r.2) else (some p.1, 0, r.2)
/-- Put, of a node that isn't sick: the error, the disk. -/
def PD.nput (d : PD) (r : List UInt8) : Int × PD :=
  let s1 := d.append sLog (beN r.length ++ r)
  if s1.1 ≠ 0 then s1 else
    let s2 := s1.2.sync sLog
    if s2.1 ≠ 0 then s2 else
      let s3 := s2.2.append sMarks [1]
      if s3.1 ≠ 0 then s3 else s3.2.sync sMarks
theorem Fit.settle {d : PD} {M : Nat} (h : Fit d M) (s : List UInt8) (has n : Nat) : Fit (d.settle s has n).2 M := by
  unfold PD.settle
  split
  · simp only
    split
    · exact h.truncate _ _
    · exact (h.truncate _ _).sync _
  · exact h.sync _
theorem Fit.settled1 {d : PD} {M : Nat} (h : Fit d M) (m : List UInt8 × Bool × Int) (n : Nat) : Fit (d.settled1 m n).2 M := by
  unfold PD.settled1
  split
  · exact h.settle _ _ _
  · exact h
theorem Fit.settled {d : PD} {M : Nat} (h : Fit d M) (m l : List UInt8 × Bool × Int) (n : Nat) (rest : List UInt8) : Fit (d.settled m l n rest).2 M := by
  unfold PD.settled PD.settled2
  split
  · exact (h.settled1 m n).settle _ _ _
  · exact h.settled1 m n
theorem Fit.nopen {d : PD} {M : Nat} (h : Fit d M) : Fit d.nopen.2.2 M := by
  unfold PD.nopen
  simp only
  split
  · exact h
  · split
    · exact h
    · split
      · exact h
      · split
        · exact h.settled _ _ _ _
        · exact h.settled _ _ _ _
theorem Fit.nput {d : PD} {M : Nat} (h : Fit d M) (r : List UInt8) : Fit (d.nput r).2 (M + r.length + 9) := by
  unfold PD.nput
  have h1 := h.append sLog (beN r.length ++ r)
  have hl : (beN r.length ++ r).length = r.length + 8 := by simp [beN_length]; omega
  rw [hl] at h1
  simp only
  split
  · exact h1.le (by omega)
  · have h2 := h1.sync sLog
    split
    · exact h2.le (by omega)
    · have h3 := h2.append sMarks [1]
      split
      · exact h3.le (by simp; omega)
      · exact (h3.sync sMarks).le (by simp; omega)
theorem read1_len {d : PD} {M : Nat} (h : Fit d M) (s : List UInt8) : (d.read1 s).1.length ≤ M := by
  unfold PD.read1
  simp only
  split
  · simp
  · unfold PD.read
    split
    · simp
    · cases hx : d.ix s with
      | none => simp
      | some i =>
        obtain ⟨f, hi, _⟩ := ix_get hx
        simp only [hi, Option.map_some, Option.getD_some]
        exact h.dat f (List.mem_of_getElem? hi)
end B
end Go.Proofs.Ytlofcomnhecgfaa
/- Small functions of a node: read, IndexFunc, cut, settle, Count, Sick. Sizes are bounded. -/
namespace Go.Proofs.Ytlofcomnhecgfaa
namespace B
attribute [local irreducible] OpW WL CW Ret Sl Blk thn blk outOf
set_option linter.unusedVariables false
set_option linter.unusedSimpArgs false
set_option maxRecDepth 4000

section
variable {P : Program} {e : Env} {w : World} {K : Value → World → Prop} {ty : TypeId}
/-- x[l:h], its address told. -/
theorem OpW.sliceLoHiE {t E k by_ n c : Nat} {z : Value} {x y u : Operand} {A : Option Addr} {kk kk' : IntKind} {j j' : Int} (l h : Nat) [ht : ElemT P t E k by_ z] (hx : ev e x = .slice A n c) (hy : ev e y = .int kk j) (hj : j = (l : Int)) (hu : ev e u = .int kk' j') (hj' : j' = (h : Int)) (hl : l ≤ h) (hh : h ≤ c) (hsp : ∀ a, A = some a → a.spot = none) (hk : K (.slice (if c = l then A else at_ A (l * k)) (h - l) (c - l)) w) : OpW P (.slice t x (some y) (some u) none) ty e w K := by
  refine OpW.of_sem (s := Instr.sliceAt t (ev e x) (some (ev e y)) (some (ev e u)) none) rfl (v := .slice (if c = l then A else at_ A (l * k)) (h - l) (c - l)) (w' := w) ?_ hk
  rw [hx, hy, hj, hu, hj']
  rw [run_slice ht hsp (l := l) (h := h) (m := c)]
  simp [Instr.sliceBounds, Sem.run_bind, run_bound hl, run_bound hh, Result.andThen]
theorem OpW.sliceLoE {t E k by_ n c : Nat} {z : Value} {x y : Operand} {A : Option Addr} {kk : IntKind} {j : Int} (l : Nat) [ht : ElemT P t E k by_ z] (hx : ev e x = .slice A n c) (hy : ev e y = .int kk j) (hj : j = (l : Int)) (hl : l ≤ n) (hsp : ∀ a, A = some a → a.spot = none) (hk : K (.slice (if c = l then A else at_ A (l * k)) (n - l) (c - l)) w) : OpW P (.slice t x (some y) none none) ty e w K := by
  refine OpW.of_sem (s := Instr.sliceAt t (ev e x) (some (ev e y)) none none) rfl (v := .slice (if c = l then A else at_ A (l * k)) (n - l) (c - l)) (w' := w) ?_ hk
  rw [hx, hy, hj]
  rw [run_slice ht hsp (l := l) (h := n) (m := c)]
  simp [Instr.sliceBounds, Sem.run_bind, run_bound hl, Result.andThen]
theorem sl_part {A : Option Addr} {l : List UInt8} {c m : Nat} (hs : Sl w A (bvs l)) (hsp : ∀ a, A = some a → a.spot = none) (hc : l.length ≤ c) : Sl w (if c = m then A else at_ A (m * 1)) (bvs (l.drop m)) := by
  rw [← bvs_drop]
  refine hs.drop' m hsp _ ?_
  by_cases h : c = m
  · rw [if_pos h]; exact Or.inl ⟨rfl, by rw [bvs_length]; omega⟩
  · rw [if_neg h, Nat.mul_one]; exact Or.inr rfl
end
section
variable {X : Nat → Prop} {w w' : World} {db mb nb : Nat} {d m : PD} {M : Nat}
def Read87 (w w' : World) (v : Value) (r : List UInt8 × Bool × Int) : Prop := ∃ A cap, v = .tuple #[.slice A r.1.length cap, .bool r.2.1, .int .i64 r.2.2] ∧ Own w' A 5 1 r.1.length cap (bvs r.1) (fresh w) ∧ Grow w w'
theorem read87 (s : List UInt8) (h : Ret Try.prog 42 #[.pointer (some ⟨db, 0, none⟩), .string (bstr s)] w fun v w' => Grow w w' ∧ ∃ A cap, v = .tuple #[.slice A (d.read s).1.length cap, .int .i64 (d.read s).2] ∧ Own w' A 5 1 (d.read s).1.length cap (bvs (d.read s).1) (fresh w)) :
    Ret Try.prog 87 #[.pointer (some ⟨db, 0, none⟩), .string (bstr s)] w fun v w' => Read87 w w' v (d.read1 s) := by
  refine Ret.enter (fn := Try.f87) (N := 19) Try.func87 rfl Try.ntmps87 rfl ?_
  repeat (first | refine WL.nil ?_ | refine WL.auto (h := ?_) | refine WL.gskip rfl rfl rfl rfl ?_ | refine WL.gauto (h := ?_) | (refine CW.seq ?_; intro K hK) | refine CW.block ?_ | refine CW.region ?_ | refine CW.skip ?_ | refine CW.exit ?_ | refine CW.ret ?_ | (refine thn_ret (K := K) ?_; clear hK K) | refine thn_ret ?_ | refine blk_ret ?_ | (refine thn_exit (K := K) ?_; clear hK K) | refine thn_exit ?_ | refine blk_here ?_ | refine blk_past rfl ?_ | refine thn_norm ?_ | refine blk_norm ?_ | refine CW.condT rfl ?_ | refine CW.condF rfl ?_ | (refine hK _ _ ?_; clear hK K))
  first | refine WL.step rfl ?_ | refine WL.gstep rfl rfl rfl rfl ?_
  refine OpW.call (h.mono ?_) rfl
  rintro v w1 ⟨g1, A, cap, rfl, o1⟩
  have e1 : d.read1 s = if (d.read s).2 = 50 then ([], false, 0) else ((d.read s).1, true, (d.read s).2) := rfl
  generalize d.read s = r at *
  obtain ⟨l, e⟩ := r
  simp only at o1 e1
  repeat (first | refine WL.nil ?_ | refine WL.auto (h := ?_) | refine WL.gskip rfl rfl rfl rfl ?_ | refine WL.gauto (h := ?_) | (refine CW.seq ?_; intro K hK) | refine CW.block ?_ | refine CW.region ?_ | refine CW.skip ?_ | refine CW.exit ?_ | refine CW.ret ?_ | (refine thn_ret (K := K) ?_; clear hK K) | refine thn_ret ?_ | refine blk_ret ?_ | (refine thn_exit (K := K) ?_; clear hK K) | refine thn_exit ?_ | refine blk_here ?_ | refine blk_past rfl ?_ | refine thn_norm ?_ | refine blk_norm ?_ | refine CW.condT rfl ?_ | refine CW.condF rfl ?_ | (refine hK _ _ ?_; clear hK K))
  refine CW.condP rfl (fun h1 => ?_) (fun h1 => ?_)
  · rw [if_pos h1] at e1
    repeat (first | refine WL.nil ?_ | refine WL.auto (h := ?_) | refine WL.gskip rfl rfl rfl rfl ?_ | refine WL.gauto (h := ?_) | (refine CW.seq ?_; intro K hK) | refine CW.block ?_ | refine CW.region ?_ | refine CW.skip ?_ | refine CW.exit ?_ | refine CW.ret ?_ | (refine thn_ret (K := K) ?_; clear hK K) | refine thn_ret ?_ | refine blk_ret ?_ | (refine thn_exit (K := K) ?_; clear hK K) | refine thn_exit ?_ | refine blk_here ?_ | refine blk_past rfl ?_ | refine thn_norm ?_ | refine blk_norm ?_ | refine CW.condT rfl ?_ | refine CW.condF rfl ?_ | (refine hK _ _ ?_; clear hK K))
    refine out3 (v1 := .slice none 0 0) (v2 := .bool false) (v3 := .int .i64 0) Try.results87 rfl rfl rfl ?_ (Or.inr rfl)
    rw [e1]
    exact ⟨none, 0, rfl, Own.nil _ _ _ _, g1⟩
  · rw [if_neg h1] at e1
    repeat (first | refine WL.nil ?_ | refine WL.auto (h := ?_) | refine WL.gskip rfl rfl rfl rfl ?_ | refine WL.gauto (h := ?_) | (refine CW.seq ?_; intro K hK) | refine CW.block ?_ | refine CW.region ?_ | refine CW.skip ?_ | refine CW.exit ?_ | refine CW.ret ?_ | (refine thn_ret (K := K) ?_; clear hK K) | refine thn_ret ?_ | refine blk_ret ?_ | (refine thn_exit (K := K) ?_; clear hK K) | refine thn_exit ?_ | refine blk_here ?_ | refine blk_past rfl ?_ | refine thn_norm ?_ | refine blk_norm ?_ | refine CW.condT rfl ?_ | refine CW.condF rfl ?_ | (refine hK _ _ ?_; clear hK K))
    refine out3 (v1 := .slice A l.length cap) (v2 := .bool true) (v3 := .int .i64 e) Try.results87 rfl rfl rfl ?_ (Or.inr rfl)
    rw [e1]
    exact ⟨A, cap, rfl, o1, g1⟩
theorem not89 (c : UInt8) (w : World) : Ret Try.prog 89 #[.int .u8 (c.toNat : Int)] w fun v w' => v = .bool (decide (¬ c = 1)) ∧ Grow w w' := by
  refine Ret.enter (fn := Try.f89) (N := 5) Try.func89 rfl Try.ntmps89 rfl ?_
  repeat (first | refine WL.nil ?_ | refine WL.auto (h := ?_) | refine WL.gskip rfl rfl rfl rfl ?_ | refine WL.gauto (h := ?_) | (refine CW.seq ?_; intro K hK) | refine CW.block ?_ | refine CW.region ?_ | refine CW.skip ?_ | refine CW.exit ?_ | refine CW.ret ?_ | (refine thn_ret (K := K) ?_; clear hK K) | refine thn_ret ?_ | refine blk_ret ?_ | (refine thn_exit (K := K) ?_; clear hK K) | refine thn_exit ?_ | refine blk_here ?_ | refine blk_past rfl ?_ | refine thn_norm ?_ | refine blk_norm ?_ | refine CW.condT rfl ?_ | refine CW.condF rfl ?_ | (refine hK _ _ ?_; clear hK K))
  refine out1 (v := .bool (decide (¬ c = 1))) Try.results89 (congrArg Value.bool ?_) ⟨rfl, Chg.refl _ _⟩ (Or.inr rfl)
  rw [decide_eq_decide]
  have : ((c.toNat : Int) = 1) ↔ c = 1 := by
    constructor
    · intro h
      apply UInt8.toNat.inj
      have : c.toNat = 1 := by omega
      rw [this]; rfl
    · rintro rfl; rfl
  exact not_congr this
/-- The first byte that isn't a mark. -/
def firstNot (l : List UInt8) : Int := if ones l = l.length then -1 else (ones l : Int)
theorem ones_lt {l : List UInt8} {k : Nat} (hk : k < l.length) (hall : ∀ i (h : i < l.length), i < k → l[i] = 1) (hn : ¬ l[k] = 1) : ones l = k := by
  unfold ones
  have h1 : l = l.take k ++ l[k] :: l.drop (k + 1) := by
    rw [← List.drop_eq_getElem_cons hk, List.take_append_drop]
  rw [h1, List.takeWhile_append_of_pos (fun a ha => by
    obtain ⟨i, hi, rfl⟩ := List.getElem_of_mem ha
    simp only [List.length_take] at hi
    simp only [List.getElem_take]
    exact decide_eq_true (hall i (by omega) (by omega)))]
  rw [List.takeWhile_cons_of_neg (by simpa using hn)]
  simp
  omega
theorem ones_all {l : List UInt8} (hall : ∀ i (h : i < l.length), l[i] = 1) : ones l = l.length := by
  unfold ones
  have h1 := List.takeWhile_append_of_pos (p := fun c : UInt8 => decide (c = 1)) (l₁ := l) (l₂ := []) (fun a ha => by
    obtain ⟨i, hi, rfl⟩ := List.getElem_of_mem ha
    exact decide_eq_true (hall i hi))
  rw [List.append_nil] at h1
  rw [h1]
  simp
theorem index88 (A : Option Addr) (cap : Nat) (l : List UInt8) (w : World) (hs : Sl w A (bvs l)) (hl : l.length ≤ 1099511627776) :
    Ret Try.prog 88 #[.slice A l.length cap, .func (.func 89) #[] #[]] w fun v w' => v = .int .i64 (firstNot l) ∧ Grow w w' := by
  refine Ret.enter (fn := Try.f88) (N := 19) Try.func88 rfl Try.ntmps88 rfl ?_
  repeat (first | refine WL.nil ?_ | refine WL.auto (h := ?_) | refine WL.gskip rfl rfl rfl rfl ?_ | refine WL.gauto (h := ?_) | (refine CW.seq ?_; intro K hK) | refine CW.block ?_ | refine CW.region ?_ | refine CW.skip ?_ | refine CW.exit ?_ | refine CW.ret ?_ | (refine thn_ret (K := K) ?_; clear hK K) | refine thn_ret ?_ | refine blk_ret ?_ | (refine thn_exit (K := K) ?_; clear hK K) | refine thn_exit ?_ | refine blk_here ?_ | refine blk_past rfl ?_ | refine thn_norm ?_ | refine blk_norm ?_ | refine CW.condT rfl ?_ | refine CW.condF rfl ?_ | (refine hK _ _ ?_; clear hK K))
  refine CW.loop (fun n' e w2 => ∃ k, k ≤ l.length ∧ n' = l.length - k ∧ (∀ i (h : i < l.length), i < k → l[i] = 1) ∧ Grow w w2 ∧ ∃ e0, e = upd (upd (upd (upd e0 0 (.slice A l.length cap)) 1 (.func (.func 89) #[] #[])) 7 (.int .i64 l.length)) 8 (.int .i64 k)) l.length ?_ ?_
  · exact ⟨0, by omega, rfl, fun i h hi => by omega, Chg.refl _ _, rep4 rfl rfl rfl rfl⟩
  rintro n' e w2 ⟨k, hk, rfl, hall, g2, e0, rfl⟩ KJ hJ
  repeat (first | refine WL.nil ?_ | refine WL.auto (h := ?_) | refine WL.gskip rfl rfl rfl rfl ?_ | refine WL.gauto (h := ?_) | (refine CW.seq ?_; intro K hK) | refine CW.block ?_ | refine CW.region ?_ | refine CW.skip ?_ | refine CW.exit ?_ | refine CW.ret ?_ | (refine thn_ret (K := K) ?_; clear hK K) | refine thn_ret ?_ | refine blk_ret ?_ | (refine thn_exit (K := K) ?_; clear hK K) | refine thn_exit ?_ | refine blk_here ?_ | refine blk_past rfl ?_ | refine thn_norm ?_ | refine blk_norm ?_ | refine CW.condT rfl ?_ | refine CW.condF rfl ?_ | (refine hK _ _ ?_; clear hK K))
  refine CW.condP rfl (fun h3 => ?_) (fun h3 => ?_)
  · have hkl : k < l.length := by omega
    have hkb : k < (bvs l).length := by rw [bvs_length]; exact hkl
    have hsl := hs.grow g2
    have hcell : (bvs l)[k]? = some (bv l[k]) := by rw [bvs_get, List.getElem?_eq_getElem hkl]; rfl
    repeat (first | refine WL.nil ?_ | refine WL.auto (h := ?_) | refine WL.gskip rfl rfl rfl rfl ?_ | refine WL.gauto (h := ?_) | (refine CW.seq ?_; intro K hK) | refine CW.block ?_ | refine CW.region ?_ | refine CW.skip ?_ | refine CW.exit ?_ | refine CW.ret ?_ | (refine thn_ret (K := K) ?_; clear hK K) | refine thn_ret ?_ | refine blk_ret ?_ | (refine thn_exit (K := K) ?_; clear hK K) | refine thn_exit ?_ | refine blk_here ?_ | refine blk_past rfl ?_ | refine thn_norm ?_ | refine blk_norm ?_ | refine CW.condT rfl ?_ | refine CW.condF rfl ?_ | (refine hK _ _ ?_; clear hK K))
    first | refine WL.step rfl ?_ | refine WL.gstep rfl rfl rfl rfl ?_
    refine OpW.indexAddr k rfl rfl rfl hkl (sl_ne hsl hkb) (sl_sp hsl hkb) ?_
    repeat (first | refine WL.nil ?_ | refine WL.auto (h := ?_) | refine WL.gskip rfl rfl rfl rfl ?_ | refine WL.gauto (h := ?_) | (refine CW.seq ?_; intro K hK) | refine CW.block ?_ | refine CW.region ?_ | refine CW.skip ?_ | refine CW.exit ?_ | refine CW.ret ?_ | (refine thn_ret (K := K) ?_; clear hK K) | refine thn_ret ?_ | refine blk_ret ?_ | (refine thn_exit (K := K) ?_; clear hK K) | refine thn_exit ?_ | refine blk_here ?_ | refine blk_past rfl ?_ | refine thn_norm ?_ | refine blk_norm ?_ | refine CW.condT rfl ?_ | refine CW.condF rfl ?_ | (refine hK _ _ ?_; clear hK K))
    first | refine WL.step rfl ?_ | refine WL.gstep rfl rfl rfl rfl ?_
    refine OpW.loadS (v := bv l[k]) rfl hsl (by simpa using hcell) ?_
    repeat (first | refine WL.nil ?_ | refine WL.auto (h := ?_) | refine WL.gskip rfl rfl rfl rfl ?_ | refine WL.gauto (h := ?_) | (refine CW.seq ?_; intro K hK) | refine CW.block ?_ | refine CW.region ?_ | refine CW.skip ?_ | refine CW.exit ?_ | refine CW.ret ?_ | (refine thn_ret (K := K) ?_; clear hK K) | refine thn_ret ?_ | refine blk_ret ?_ | (refine thn_exit (K := K) ?_; clear hK K) | refine thn_exit ?_ | refine blk_here ?_ | refine blk_past rfl ?_ | refine thn_norm ?_ | refine blk_norm ?_ | refine CW.condT rfl ?_ | refine CW.condF rfl ?_ | (refine hK _ _ ?_; clear hK K))
    first | refine WL.step rfl ?_ | refine WL.gstep rfl rfl rfl rfl ?_
    refine OpW.callFn (vs := [.int .u8 (l[k].toNat : Int)]) rfl ((not89 l[k] w2).mono ?_) rfl
    rintro v w3 ⟨rfl, g3⟩
    repeat (first | refine WL.nil ?_ | refine WL.auto (h := ?_) | refine WL.gskip rfl rfl rfl rfl ?_ | refine WL.gauto (h := ?_) | (refine CW.seq ?_; intro K hK) | refine CW.block ?_ | refine CW.region ?_ | refine CW.skip ?_ | refine CW.exit ?_ | refine CW.ret ?_ | (refine thn_ret (K := K) ?_; clear hK K) | refine thn_ret ?_ | refine blk_ret ?_ | (refine thn_exit (K := K) ?_; clear hK K) | refine thn_exit ?_ | refine blk_here ?_ | refine blk_past rfl ?_ | refine thn_norm ?_ | refine blk_norm ?_ | refine CW.condT rfl ?_ | refine CW.condF rfl ?_ | (refine hK _ _ ?_; clear hK K))
    refine CW.condP rfl (fun h4 => ?_) (fun h4 => ?_)
    · have ho := ones_lt hkl hall h4
      repeat (first | refine WL.nil ?_ | refine WL.auto (h := ?_) | refine WL.gskip rfl rfl rfl rfl ?_ | refine WL.gauto (h := ?_) | (refine CW.seq ?_; intro K hK) | refine CW.block ?_ | refine CW.region ?_ | refine CW.skip ?_ | refine CW.exit ?_ | refine CW.ret ?_ | (refine thn_ret (K := K) ?_; clear hK K) | refine thn_ret ?_ | refine blk_ret ?_ | (refine thn_exit (K := K) ?_; clear hK K) | refine thn_exit ?_ | refine blk_here ?_ | refine blk_past rfl ?_ | refine thn_norm ?_ | refine blk_norm ?_ | refine CW.condT rfl ?_ | refine CW.condF rfl ?_ | (refine hK _ _ ?_; clear hK K))
      refine out1 (v := .int .i64 k) Try.results88 rfl ⟨congrArg (Value.int .i64) ?_, g2.then g3⟩ (Or.inr rfl)
      unfold firstNot
      rw [ho, if_neg (by omega)]
    · have h5 : l[k] = 1 := by simpa using h4
      repeat (first | refine WL.nil ?_ | refine WL.auto (h := ?_) | refine WL.gskip rfl rfl rfl rfl ?_ | refine WL.gauto (h := ?_) | (refine CW.seq ?_; intro K hK) | refine CW.block ?_ | refine CW.region ?_ | refine CW.skip ?_ | refine CW.exit ?_ | refine CW.ret ?_ | (refine thn_ret (K := K) ?_; clear hK K) | refine thn_ret ?_ | refine blk_ret ?_ | (refine thn_exit (K := K) ?_; clear hK K) | refine thn_exit ?_ | refine blk_here ?_ | refine blk_past rfl ?_ | refine thn_norm ?_ | refine blk_norm ?_ | refine CW.condT rfl ?_ | refine CW.condF rfl ?_ | (refine hK _ _ ?_; clear hK K))
      refine hJ (l.length - (k + 1)) _ _ (by omega) ⟨k + 1, by omega, rfl, fun i h hi => ?_, g2.then g3, rep4 rfl rfl rfl (congrArg (Value.int .i64) (by omega))⟩
      rcases Nat.lt_or_ge i k with h' | h'
      · exact hall i h h'
      · obtain rfl : i = k := by omega
        exact h5
  · obtain rfl : k = l.length := by omega
    repeat (first | refine WL.nil ?_ | refine WL.auto (h := ?_) | refine WL.gskip rfl rfl rfl rfl ?_ | refine WL.gauto (h := ?_) | (refine CW.seq ?_; intro K hK) | refine CW.block ?_ | refine CW.region ?_ | refine CW.skip ?_ | refine CW.exit ?_ | refine CW.ret ?_ | (refine thn_ret (K := K) ?_; clear hK K) | refine thn_ret ?_ | refine blk_ret ?_ | (refine thn_exit (K := K) ?_; clear hK K) | refine thn_exit ?_ | refine blk_here ?_ | refine blk_past rfl ?_ | refine thn_norm ?_ | refine blk_norm ?_ | refine CW.condT rfl ?_ | refine CW.condF rfl ?_ | (refine hK _ _ ?_; clear hK K))
    refine out1 (v := .int .i64 (-1)) Try.results88 rfl ⟨congrArg (Value.int .i64) ?_, g2⟩ (Or.inr rfl)
    unfold firstNot
    rw [if_pos (ones_all fun i h => hall i h h)]

/-- What cut hands back. -/
def Cut90 (w : World) (v : Value) (Z : Nat → Prop) : Option (List UInt8 × List UInt8) → Prop
  | none => v = .tuple #[.slice none 0 0, .slice none 0 0, .bool false]
  | some q => ∃ B C bc cc, v = .tuple #[.slice B q.1.length bc, .slice C q.2.length cc, .bool true] ∧ Sl w B (bvs q.1) ∧ Sl w C (bvs q.2) ∧ q.2.length ≤ cc ∧ (∀ a, C = some a → Z a.block)
theorem cut90 (A : Option Addr) (cap : Nat) (l : List UInt8) (w : World) (hs : Sl w A (bvs l)) (hl : l.length ≤ 1099511627776) (hc : l.length ≤ cap) :
    Ret Try.prog 90 #[.slice A l.length cap] w fun v w' => Cut90 w' v (fun b => ∃ a, A = some a ∧ a.block = b) (cutOne l) ∧ Grow w w' := by
  refine Ret.enter (fn := Try.f90) (N := 27) Try.func90 rfl Try.ntmps90 rfl ?_
  repeat (first | refine WL.nil ?_ | refine WL.auto (h := ?_) | refine WL.gskip rfl rfl rfl rfl ?_ | refine WL.gauto (h := ?_) | (refine CW.seq ?_; intro K hK) | refine CW.block ?_ | refine CW.region ?_ | refine CW.skip ?_ | refine CW.exit ?_ | refine CW.ret ?_ | (refine thn_ret (K := K) ?_; clear hK K) | refine thn_ret ?_ | refine blk_ret ?_ | (refine thn_exit (K := K) ?_; clear hK K) | refine thn_exit ?_ | refine blk_here ?_ | refine blk_past rfl ?_ | refine thn_norm ?_ | refine blk_norm ?_ | refine CW.condT rfl ?_ | refine CW.condF rfl ?_ | (refine hK _ _ ?_; clear hK K))
  by_cases h8 : l.length < 8
  · rw [decide_eq_true (p := (l.length : Int) < 8) (by omega)]
    repeat (first | refine WL.nil ?_ | refine WL.auto (h := ?_) | refine WL.gskip rfl rfl rfl rfl ?_ | refine WL.gauto (h := ?_) | (refine CW.seq ?_; intro K hK) | refine CW.block ?_ | refine CW.region ?_ | refine CW.skip ?_ | refine CW.exit ?_ | refine CW.ret ?_ | (refine thn_ret (K := K) ?_; clear hK K) | refine thn_ret ?_ | refine blk_ret ?_ | (refine thn_exit (K := K) ?_; clear hK K) | refine thn_exit ?_ | refine blk_here ?_ | refine blk_past rfl ?_ | refine thn_norm ?_ | refine blk_norm ?_ | refine CW.condT rfl ?_ | refine CW.condF rfl ?_ | (refine hK _ _ ?_; clear hK K))
    refine out3 (v1 := .slice none 0 0) (v2 := .slice none 0 0) (v3 := .bool false) Try.results90 rfl rfl rfl ⟨?_, Chg.refl _ _⟩ (Or.inr rfl)
    unfold cutOne
    rw [if_pos h8]
    exact rfl
  rw [decide_eq_false (p := (l.length : Int) < 8) (by omega)]
  have h88 : (l.take 8).length = 8 := by simp; omega
  have hs8 : Sl w A (bvs (l.take 8)) := by
    have := hs.take 8
    rwa [bvs_take] at this
  have hpos : 0 < (bvs l).length := by rw [bvs_length]; omega
  have hsp := sl_sp hs hpos
  repeat (first | refine WL.nil ?_ | refine WL.auto (h := ?_) | refine WL.gskip rfl rfl rfl rfl ?_ | refine WL.gauto (h := ?_) | (refine CW.seq ?_; intro K hK) | refine CW.block ?_ | refine CW.region ?_ | refine CW.skip ?_ | refine CW.exit ?_ | refine CW.ret ?_ | (refine thn_ret (K := K) ?_; clear hK K) | refine thn_ret ?_ | refine blk_ret ?_ | (refine thn_exit (K := K) ?_; clear hK K) | refine thn_exit ?_ | refine blk_here ?_ | refine blk_past rfl ?_ | refine thn_norm ?_ | refine blk_norm ?_ | refine CW.condT rfl ?_ | refine CW.condF rfl ?_ | (refine hK _ _ ?_; clear hK K))
  first | refine WL.step rfl ?_ | refine WL.gstep rfl rfl rfl rfl ?_
  refine OpW.sliceHi 8 rfl rfl rfl (by omega) ?_
  repeat (first | refine WL.nil ?_ | refine WL.auto (h := ?_) | refine WL.gskip rfl rfl rfl rfl ?_ | refine WL.gauto (h := ?_) | (refine CW.seq ?_; intro K hK) | refine CW.block ?_ | refine CW.region ?_ | refine CW.skip ?_ | refine CW.exit ?_ | refine CW.ret ?_ | (refine thn_ret (K := K) ?_; clear hK K) | refine thn_ret ?_ | refine blk_ret ?_ | (refine thn_exit (K := K) ?_; clear hK K) | refine thn_exit ?_ | refine blk_here ?_ | refine blk_past rfl ?_ | refine thn_norm ?_ | refine blk_norm ?_ | refine CW.condT rfl ?_ | refine CW.condF rfl ?_ | (refine hK _ _ ?_; clear hK K))
  first | refine WL.step rfl ?_ | refine WL.gstep rfl rfl rfl rfl ?_
  have h43 := open43 A cap (l.take 8) w hs8 (by omega)
  rw [h88] at h43
  refine OpW.call (h43.mono ?_) rfl
  rintro v w1 ⟨rb, rfl, hr, g1, hrb⟩
  repeat (first | refine WL.nil ?_ | refine WL.auto (h := ?_) | refine WL.gskip rfl rfl rfl rfl ?_ | refine WL.gauto (h := ?_) | (refine CW.seq ?_; intro K hK) | refine CW.block ?_ | refine CW.region ?_ | refine CW.skip ?_ | refine CW.exit ?_ | refine CW.ret ?_ | (refine thn_ret (K := K) ?_; clear hK K) | refine thn_ret ?_ | refine blk_ret ?_ | (refine thn_exit (K := K) ?_; clear hK K) | refine thn_exit ?_ | refine blk_here ?_ | refine blk_past rfl ?_ | refine thn_norm ?_ | refine blk_norm ?_ | refine CW.condT rfl ?_ | refine CW.condF rfl ?_ | (refine hK _ _ ?_; clear hK K))
  first | refine WL.step rfl ?_ | refine WL.gstep rfl rfl rfl rfl ?_
  refine OpW.call ((N44 rb _ _ w1 hr).mono ?_) rfl
  rintro v w2 ⟨rfl, hr2, c2⟩
  have g2 : Grow w w2 := g1.chgNew c2 (fun i hi e => by omega)
  have hn : (rN (l.take 8, 0)).1 = numOf (l.take 8) := by
    have e : rNum (l.take 8, 0) 0 8 = (numOf (l.take 8), true, (l.take 8, 0)) := by
      unfold rNum
      simp only [h88]
      rw [if_neg (by simp), if_neg (by simp)]
      rw [List.drop_zero, List.take_of_length_le (by omega)]
    unfold rN
    rw [e]
    rfl
  rw [hn]
  have hlt := numOf_lt (l.take 8)
  rw [h88] at hlt
  have hcut : cutOne l = if l.length - 8 < numOf (l.take 8) then none else some ((l.drop 8).take (numOf (l.take 8)), l.drop (8 + numOf (l.take 8))) := by unfold cutOne; rw [if_neg h8]
  generalize numOf (l.take 8) = n at *
  repeat (first | refine WL.nil ?_ | refine WL.auto (h := ?_) | refine WL.gskip rfl rfl rfl rfl ?_ | refine WL.gauto (h := ?_) | (refine CW.seq ?_; intro K hK) | refine CW.block ?_ | refine CW.region ?_ | refine CW.skip ?_ | refine CW.exit ?_ | refine CW.ret ?_ | (refine thn_ret (K := K) ?_; clear hK K) | refine thn_ret ?_ | refine blk_ret ?_ | (refine thn_exit (K := K) ?_; clear hK K) | refine thn_exit ?_ | refine blk_here ?_ | refine blk_past rfl ?_ | refine thn_norm ?_ | refine blk_norm ?_ | refine CW.condT rfl ?_ | refine CW.condF rfl ?_ | (refine hK _ _ ?_; clear hK K))
  by_cases hbig : l.length - 8 < n
  · rw [decide_eq_true (p := (l.length : Int) - 8 < (n : Int)) (by omega)]
    rw [if_pos hbig] at hcut
    repeat (first | refine WL.nil ?_ | refine WL.auto (h := ?_) | refine WL.gskip rfl rfl rfl rfl ?_ | refine WL.gauto (h := ?_) | (refine CW.seq ?_; intro K hK) | refine CW.block ?_ | refine CW.region ?_ | refine CW.skip ?_ | refine CW.exit ?_ | refine CW.ret ?_ | (refine thn_ret (K := K) ?_; clear hK K) | refine thn_ret ?_ | refine blk_ret ?_ | (refine thn_exit (K := K) ?_; clear hK K) | refine thn_exit ?_ | refine blk_here ?_ | refine blk_past rfl ?_ | refine thn_norm ?_ | refine blk_norm ?_ | refine CW.condT rfl ?_ | refine CW.condF rfl ?_ | (refine hK _ _ ?_; clear hK K))
    refine out3 (v1 := .slice none 0 0) (v2 := .slice none 0 0) (v3 := .bool false) Try.results90 rfl rfl rfl ⟨?_, g2⟩ (Or.inr rfl)
    rw [hcut]
    exact rfl
  · rw [decide_eq_false (p := (l.length : Int) - 8 < (n : Int)) (by omega)]
    rw [if_neg hbig] at hcut
    repeat (first | refine WL.nil ?_ | refine WL.auto (h := ?_) | refine WL.gskip rfl rfl rfl rfl ?_ | refine WL.gauto (h := ?_) | (refine CW.seq ?_; intro K hK) | refine CW.block ?_ | refine CW.region ?_ | refine CW.skip ?_ | refine CW.exit ?_ | refine CW.ret ?_ | (refine thn_ret (K := K) ?_; clear hK K) | refine thn_ret ?_ | refine blk_ret ?_ | (refine thn_exit (K := K) ?_; clear hK K) | refine thn_exit ?_ | refine blk_here ?_ | refine blk_past rfl ?_ | refine thn_norm ?_ | refine blk_norm ?_ | refine CW.condT rfl ?_ | refine CW.condF rfl ?_ | (refine hK _ _ ?_; clear hK K))
    have s2 := hs.grow g2
    refine CW.held (fun _ => False) (.take 0 (.take 1 (.take 2 (.take 3 (.take 4 (.take 5 (.take 6 (.take 7 (.one 8 (.one 9 (.one 10 .nil))))))))))) rfl (by kernel_rfl) (by kernel_rfl) (fun w3 g3 => ?_)
    repeat (first | refine AL.nil ?_ | refine AL.auto (hn := ?_) | refine AL.gskip rfl rfl rfl rfl rfl ?_ | refine AL.goneSkip rfl rfl rfl rfl rfl ?_ | refine AL.gauto (hn := ?_) | refine AL.oauto (hn := ?_))
    refine AL.take rfl rfl rfl (fun w hg => OpW.sliceLoHiE 8 (8 + n) rfl rfl rfl rfl (by omega) (by omega) (by omega) hsp ⟨rfl, rfl⟩) ?_
    repeat (first | refine AL.nil ?_ | refine AL.auto (hn := ?_) | refine AL.gskip rfl rfl rfl rfl rfl ?_ | refine AL.goneSkip rfl rfl rfl rfl rfl ?_ | refine AL.gauto (hn := ?_) | refine AL.oauto (hn := ?_))
    refine AL.take rfl rfl rfl (fun w hg => OpW.sliceLoE (8 + n) rfl rfl (by omega) (by omega) hsp ⟨rfl, rfl⟩) ?_
    repeat (first | refine AL.nil ?_ | refine AL.auto (hn := ?_) | refine AL.gskip rfl rfl rfl rfl rfl ?_ | refine AL.goneSkip rfl rfl rfl rfl rfl ?_ | refine AL.gauto (hn := ?_) | refine AL.oauto (hn := ?_))
    repeat (first | refine WL.nil ?_ | refine WL.auto (h := ?_) | refine WL.gskip rfl rfl rfl rfl ?_ | refine WL.gauto (h := ?_) | (refine CW.seq ?_; intro K hK) | refine CW.block ?_ | refine CW.region ?_ | refine CW.skip ?_ | refine CW.exit ?_ | refine CW.ret ?_ | (refine thn_ret (K := K) ?_; clear hK K) | refine thn_ret ?_ | refine blk_ret ?_ | (refine thn_exit (K := K) ?_; clear hK K) | refine thn_exit ?_ | refine blk_here ?_ | refine blk_past rfl ?_ | refine thn_norm ?_ | refine blk_norm ?_ | refine CW.condT rfl ?_ | refine CW.condF rfl ?_ | (refine hK _ _ ?_; clear hK K))
    have hl1 : ((l.drop 8).take n).length = 8 + n - 8 := by simp; omega
    have hl2 : (l.drop (8 + n)).length = l.length - (8 + n) := by simp
    refine out3 (v1 := .slice (if cap = 8 then A else at_ A (8 * 1)) (8 + n - 8) (cap - 8)) (v2 := .slice (if cap = 8 + n then A else at_ A ((8 + n) * 1)) (l.length - (8 + n)) (cap - (8 + n))) (v3 := .bool true) Try.results90 rfl rfl rfl ⟨?_, g2.then g3⟩ (Or.inr rfl)
    rw [hcut]
    refine ⟨_, _, _, _, by rw [hl1, hl2], ?_, sl_part (s2.grow g3) hsp hc, by rw [hl2]; omega, fun a ha => ?_⟩
    · have h7 := (sl_part (m := 8) (s2.grow g3) hsp hc).take n
      rwa [bvs_take] at h7
    · split at ha
      · exact ⟨a, ha, rfl⟩
      · cases A with
        | none => cases ha
        | some a0 => cases ha; exact ⟨a0, rfl, rfl⟩

theorem settle91 {X : Nat → Prop} {w : World} {db : Nat} {d : PD} {M : Nat} (h : One X w db d) (s : List UInt8) (has n : Nat) (hf : Fit d M) :
    Ret Try.prog 91 #[.pointer (some ⟨db, 0, none⟩), .string (bstr s), .int .i64 has, .int .i64 n] w fun v w' => v = .int .i64 (d.settle s has n).1 ∧ One X w' db (d.settle s has n).2 ∧ Chg (fun k => ¬ X k) w w' := by
  refine Ret.enter (fn := Try.f91) (N := 23) Try.func91 rfl Try.ntmps91 rfl ?_
  repeat (first | refine WL.nil ?_ | refine WL.auto (h := ?_) | refine WL.gskip rfl rfl rfl rfl ?_ | refine WL.gauto (h := ?_) | (refine CW.seq ?_; intro K hK) | refine CW.block ?_ | refine CW.region ?_ | refine CW.skip ?_ | refine CW.exit ?_ | refine CW.ret ?_ | (refine thn_ret (K := K) ?_; clear hK K) | refine thn_ret ?_ | refine blk_ret ?_ | (refine thn_exit (K := K) ?_; clear hK K) | refine thn_exit ?_ | refine blk_here ?_ | refine blk_past rfl ?_ | refine thn_norm ?_ | refine blk_norm ?_ | refine CW.condT rfl ?_ | refine CW.condF rfl ?_ | (refine hK _ _ ?_; clear hK K))
  by_cases h1 : n < has
  · have e1 : d.settle s has n = if (d.truncate s n).1 ≠ 0 then d.truncate s n else (d.truncate s n).2.sync s := by unfold PD.settle; rw [if_pos h1]
    rw [decide_eq_true (p := (n : Int) < (has : Int)) (by omega)]
    repeat (first | refine WL.nil ?_ | refine WL.auto (h := ?_) | refine WL.gskip rfl rfl rfl rfl ?_ | refine WL.gauto (h := ?_) | (refine CW.seq ?_; intro K hK) | refine CW.block ?_ | refine CW.region ?_ | refine CW.skip ?_ | refine CW.exit ?_ | refine CW.ret ?_ | (refine thn_ret (K := K) ?_; clear hK K) | refine thn_ret ?_ | refine blk_ret ?_ | (refine thn_exit (K := K) ?_; clear hK K) | refine thn_exit ?_ | refine blk_here ?_ | refine blk_past rfl ?_ | refine thn_norm ?_ | refine blk_norm ?_ | refine CW.condT rfl ?_ | refine CW.condF rfl ?_ | (refine hK _ _ ?_; clear hK K))
    first | refine WL.step rfl ?_ | refine WL.gstep rfl rfl rfl rfl ?_
    refine OpW.call ((truncateOD h s n hf).mono ?_) rfl
    rintro v w1 ⟨rfl, h2, c2⟩
    have hf2 := hf.truncate s n
    generalize d.truncate s n = r at *
    obtain ⟨e, d2⟩ := r
    simp only at h2 e1 hf2
    repeat (first | refine WL.nil ?_ | refine WL.auto (h := ?_) | refine WL.gskip rfl rfl rfl rfl ?_ | refine WL.gauto (h := ?_) | (refine CW.seq ?_; intro K hK) | refine CW.block ?_ | refine CW.region ?_ | refine CW.skip ?_ | refine CW.exit ?_ | refine CW.ret ?_ | (refine thn_ret (K := K) ?_; clear hK K) | refine thn_ret ?_ | refine blk_ret ?_ | (refine thn_exit (K := K) ?_; clear hK K) | refine thn_exit ?_ | refine blk_here ?_ | refine blk_past rfl ?_ | refine thn_norm ?_ | refine blk_norm ?_ | refine CW.condT rfl ?_ | refine CW.condF rfl ?_ | (refine hK _ _ ?_; clear hK K))
    refine CW.condP rfl (fun h3 => ?_) (fun h3 => ?_)
    · rw [if_pos h3] at e1
      repeat (first | refine WL.nil ?_ | refine WL.auto (h := ?_) | refine WL.gskip rfl rfl rfl rfl ?_ | refine WL.gauto (h := ?_) | (refine CW.seq ?_; intro K hK) | refine CW.block ?_ | refine CW.region ?_ | refine CW.skip ?_ | refine CW.exit ?_ | refine CW.ret ?_ | (refine thn_ret (K := K) ?_; clear hK K) | refine thn_ret ?_ | refine blk_ret ?_ | (refine thn_exit (K := K) ?_; clear hK K) | refine thn_exit ?_ | refine blk_here ?_ | refine blk_past rfl ?_ | refine thn_norm ?_ | refine blk_norm ?_ | refine CW.condT rfl ?_ | refine CW.condF rfl ?_ | (refine hK _ _ ?_; clear hK K))
      refine out1 (v := .int .i64 e) Try.results91 rfl ?_ (Or.inr rfl)
      rw [e1]
      exact ⟨rfl, h2, c2⟩
    · rw [if_neg h3] at e1
      repeat (first | refine WL.nil ?_ | refine WL.auto (h := ?_) | refine WL.gskip rfl rfl rfl rfl ?_ | refine WL.gauto (h := ?_) | (refine CW.seq ?_; intro K hK) | refine CW.block ?_ | refine CW.region ?_ | refine CW.skip ?_ | refine CW.exit ?_ | refine CW.ret ?_ | (refine thn_ret (K := K) ?_; clear hK K) | refine thn_ret ?_ | refine blk_ret ?_ | (refine thn_exit (K := K) ?_; clear hK K) | refine thn_exit ?_ | refine blk_here ?_ | refine blk_past rfl ?_ | refine thn_norm ?_ | refine blk_norm ?_ | refine CW.condT rfl ?_ | refine CW.condF rfl ?_ | (refine hK _ _ ?_; clear hK K))
      first | refine WL.step rfl ?_ | refine WL.gstep rfl rfl rfl rfl ?_
      refine OpW.call ((syncOD h2 s hf2).mono ?_) rfl
      rintro v w2 ⟨rfl, h4, c4⟩
      repeat (first | refine WL.nil ?_ | refine WL.auto (h := ?_) | refine WL.gskip rfl rfl rfl rfl ?_ | refine WL.gauto (h := ?_) | (refine CW.seq ?_; intro K hK) | refine CW.block ?_ | refine CW.region ?_ | refine CW.skip ?_ | refine CW.exit ?_ | refine CW.ret ?_ | (refine thn_ret (K := K) ?_; clear hK K) | refine thn_ret ?_ | refine blk_ret ?_ | (refine thn_exit (K := K) ?_; clear hK K) | refine thn_exit ?_ | refine blk_here ?_ | refine blk_past rfl ?_ | refine thn_norm ?_ | refine blk_norm ?_ | refine CW.condT rfl ?_ | refine CW.condF rfl ?_ | (refine hK _ _ ?_; clear hK K))
      refine out1 (v := .int .i64 (d2.sync s).1) Try.results91 rfl ?_ (Or.inr rfl)
      rw [e1]
      exact ⟨rfl, h4, c2.andThen c4⟩
  · have e1 : d.settle s has n = d.sync s := by unfold PD.settle; rw [if_neg h1]
    rw [decide_eq_false (p := (n : Int) < (has : Int)) (by omega)]
    repeat (first | refine WL.nil ?_ | refine WL.auto (h := ?_) | refine WL.gskip rfl rfl rfl rfl ?_ | refine WL.gauto (h := ?_) | (refine CW.seq ?_; intro K hK) | refine CW.block ?_ | refine CW.region ?_ | refine CW.skip ?_ | refine CW.exit ?_ | refine CW.ret ?_ | (refine thn_ret (K := K) ?_; clear hK K) | refine thn_ret ?_ | refine blk_ret ?_ | (refine thn_exit (K := K) ?_; clear hK K) | refine thn_exit ?_ | refine blk_here ?_ | refine blk_past rfl ?_ | refine thn_norm ?_ | refine blk_norm ?_ | refine CW.condT rfl ?_ | refine CW.condF rfl ?_ | (refine hK _ _ ?_; clear hK K))
    first | refine WL.step rfl ?_ | refine WL.gstep rfl rfl rfl rfl ?_
    refine OpW.call ((syncOD h s hf).mono ?_) rfl
    rintro v w2 ⟨rfl, h4, c4⟩
    repeat (first | refine WL.nil ?_ | refine WL.auto (h := ?_) | refine WL.gskip rfl rfl rfl rfl ?_ | refine WL.gauto (h := ?_) | (refine CW.seq ?_; intro K hK) | refine CW.block ?_ | refine CW.region ?_ | refine CW.skip ?_ | refine CW.exit ?_ | refine CW.ret ?_ | (refine thn_ret (K := K) ?_; clear hK K) | refine thn_ret ?_ | refine blk_ret ?_ | (refine thn_exit (K := K) ?_; clear hK K) | refine thn_exit ?_ | refine blk_here ?_ | refine blk_past rfl ?_ | refine thn_norm ?_ | refine blk_norm ?_ | refine CW.condT rfl ?_ | refine CW.condF rfl ?_ | (refine hK _ _ ?_; clear hK K))
    refine out1 (v := .int .i64 (d.sync s).1) Try.results91 rfl ?_ (Or.inr rfl)
    rw [e1]
    exact ⟨rfl, h4, c4⟩

def IsNode (w : World) (nb db c : Nat) (s : Bool) : Prop := Blk w nb #[.pointer (some ⟨db, 0, none⟩), .int .i64 (c : Int), .bool s] 125
theorem count63 {w : World} {nb db c : Nat} {s : Bool} (h : IsNode w nb db c s) : Ret Try.prog 63 #[.pointer (some ⟨nb, 0, none⟩)] w fun v w' => v = .int .i64 (c : Int) ∧ Grow w w' := by
  have hb : Blk w nb #[.pointer (some ⟨db, 0, none⟩), .int .i64 (c : Int), .bool s] 125 := h
  refine Ret.enter (fn := Try.f63) (N := 9) Try.func63 rfl Try.ntmps63 rfl ?_
  repeat (first | refine WL.nil ?_ | refine WL.auto (h := ?_) | refine WL.gskip rfl rfl rfl rfl ?_ | refine WL.gauto (h := ?_) | (refine CW.seq ?_; intro K hK) | refine CW.block ?_ | refine CW.region ?_ | refine CW.skip ?_ | refine CW.exit ?_ | refine CW.ret ?_ | (refine thn_ret (K := K) ?_; clear hK K) | refine thn_ret ?_ | refine blk_ret ?_ | (refine thn_exit (K := K) ?_; clear hK K) | refine thn_exit ?_ | refine blk_here ?_ | refine blk_past rfl ?_ | refine thn_norm ?_ | refine blk_norm ?_ | refine CW.condT rfl ?_ | refine CW.condF rfl ?_ | (refine hK _ _ ?_; clear hK K))
  exact out1 (v := .int .i64 (c : Int)) Try.results63 rfl ⟨rfl, Chg.refl _ _⟩ (Or.inr rfl)
theorem countNil (w : World) : Ret Try.prog 63 #[.pointer none] w fun v w' => v = .int .i64 0 ∧ Grow w w' := by
  refine Ret.enter (fn := Try.f63) (N := 9) Try.func63 rfl Try.ntmps63 rfl ?_
  repeat (first | refine WL.nil ?_ | refine WL.auto (h := ?_) | refine WL.gskip rfl rfl rfl rfl ?_ | refine WL.gauto (h := ?_) | (refine CW.seq ?_; intro K hK) | refine CW.block ?_ | refine CW.region ?_ | refine CW.skip ?_ | refine CW.exit ?_ | refine CW.ret ?_ | (refine thn_ret (K := K) ?_; clear hK K) | refine thn_ret ?_ | refine blk_ret ?_ | (refine thn_exit (K := K) ?_; clear hK K) | refine thn_exit ?_ | refine blk_here ?_ | refine blk_past rfl ?_ | refine thn_norm ?_ | refine blk_norm ?_ | refine CW.condT rfl ?_ | refine CW.condF rfl ?_ | (refine hK _ _ ?_; clear hK K))
  exact out1 (v := .int .i64 0) Try.results63 rfl ⟨rfl, Chg.refl _ _⟩ (Or.inr rfl)
theorem sick64 {w : World} {nb db c : Nat} {s : Bool} (h : IsNode w nb db c s) : Ret Try.prog 64 #[.pointer (some ⟨nb, 0, none⟩)] w fun v w' => v = .bool s ∧ Grow w w' := by
  have hb : Blk w nb #[.pointer (some ⟨db, 0, none⟩), .int .i64 (c : Int), .bool s] 125 := h
  refine Ret.enter (fn := Try.f64) (N := 11) Try.func64 rfl Try.ntmps64 rfl ?_
  repeat (first | refine WL.nil ?_ | refine WL.auto (h := ?_) | refine WL.gskip rfl rfl rfl rfl ?_ | refine WL.gskipU rfl rfl rfl rfl ?_ | refine WL.gauto (h := ?_) | (refine CW.seq ?_; intro K hK) | refine CW.block ?_ | refine CW.region ?_ | refine CW.skip ?_ | refine CW.exit ?_ | refine CW.ret ?_ | (refine thn_ret (K := K) ?_; clear hK K) | refine thn_ret ?_ | refine blk_ret ?_ | (refine thn_exit (K := K) ?_; clear hK K) | refine thn_exit ?_ | refine blk_here ?_ | refine blk_past rfl ?_ | refine thn_norm ?_ | refine blk_norm ?_ | refine CW.condT rfl ?_ | refine CW.condF rfl ?_ | (refine hK _ _ ?_; clear hK K))
  exact out1 (v := .bool s) Try.results64 rfl ⟨rfl, Chg.refl _ _⟩ (Or.inr rfl)
theorem sickNil (w : World) : Ret Try.prog 64 #[.pointer none] w fun v w' => v = .bool false ∧ Grow w w' := by
  refine Ret.enter (fn := Try.f64) (N := 11) Try.func64 rfl Try.ntmps64 rfl ?_
  repeat (first | refine WL.nil ?_ | refine WL.auto (h := ?_) | refine WL.gskip rfl rfl rfl rfl ?_ | refine WL.gskipU rfl rfl rfl rfl ?_ | refine WL.gauto (h := ?_) | (refine CW.seq ?_; intro K hK) | refine CW.block ?_ | refine CW.region ?_ | refine CW.skip ?_ | refine CW.exit ?_ | refine CW.ret ?_ | (refine thn_ret (K := K) ?_; clear hK K) | refine thn_ret ?_ | refine blk_ret ?_ | (refine thn_exit (K := K) ?_; clear hK K) | refine thn_exit ?_ | refine blk_here ?_ | refine blk_past rfl ?_ | refine thn_norm ?_ | refine blk_norm ?_ | refine CW.condT rfl ?_ | refine CW.condF rfl ?_ | (refine hK _ _ ?_; clear hK K))
  exact out1 (v := .bool false) Try.results64 rfl ⟨rfl, Chg.refl _ _⟩ (Or.inr rfl)
end
end B
end Go.Proofs.Ytlofcomnhecgfaa
/- Open of a node. Sizes are bounded. -/
namespace Go.Proofs.Ytlofcomnhecgfaa
namespace B
attribute [local irreducible] OpW WL CW Ret Sl Blk thn blk outOf
set_option linter.unusedVariables false
set_option linter.unusedSimpArgs false
set_option maxRecDepth 4000

/-- Rows of bytes of the own: the row of rows, each row, in blocks of their own colours. -/
def RecAt (w : World) (RA : Option Addr) (rcap : Nat) (rs : List (List UInt8)) (lo hi : Nat) (cells : List Value) (col : Nat → Nat) : Prop :=
  Own w RA 22 1 rs.length rcap cells (fun b => lo ≤ b ∧ b < hi ∧ col b = 0) ∧ ∀ i r, rs[i]? = some r → ∃ DA c, cells[i]? = some (.slice DA r.length c) ∧ Own w DA 5 1 r.length c (bvs r) (fun b => lo ≤ b ∧ b < hi ∧ col b = i + 1)
def RecRows (w : World) (RA : Option Addr) (rcap : Nat) (rs : List (List UInt8)) (lo hi : Nat) : Prop := ∃ cells col, RecAt w RA rcap rs lo hi cells col
section
variable {S : Nat → Prop} {w w' w1 w2 w3 : World} {RA : Option Addr} {rcap lo hi hi' : Nat} {rs : List (List UInt8)} {cells : List Value} {col : Nat → Nat}
theorem RecAt.keep (h : RecAt w RA rcap rs lo hi cells col) (hc : Chg S w w') (hn : ∀ b, lo ≤ b → b < hi → ¬ S b) : RecAt w' RA rcap rs lo hi cells col := by
  obtain ⟨h1, h2⟩ := h
  refine ⟨h1.keep hc fun b hb => hn b hb.1 hb.2.1, fun i r hr => ?_⟩
  obtain ⟨DA, c, h3, h4⟩ := h2 i r hr
  exact ⟨DA, c, h3, h4.keep hc fun b hb => hn b hb.1 hb.2.1⟩
theorem RecRows.keep (h : RecRows w RA rcap rs lo hi) (hc : Chg S w w') (hn : ∀ b, lo ≤ b → b < hi → ¬ S b) : RecRows w' RA rcap rs lo hi := by
  obtain ⟨cells, col, h⟩ := h
  exact ⟨cells, col, h.keep hc hn⟩
theorem RecRows.grow (h : RecRows w RA rcap rs lo hi) (hc : Grow w w') : RecRows w' RA rcap rs lo hi := h.keep hc fun _ _ _ hf => hf
theorem RecAt.upto (h : RecAt w RA rcap rs lo hi cells col) (hh : hi ≤ hi') : RecAt w RA rcap rs lo hi' cells col := by
  obtain ⟨h1, h2⟩ := h
  refine ⟨h1.mono fun b hb => ⟨hb.1, by omega, hb.2.2⟩, fun i r hr => ?_⟩
  obtain ⟨DA, c, h3, h4⟩ := h2 i r hr
  exact ⟨DA, c, h3, h4.mono fun b hb => ⟨hb.1, by omega, hb.2.2⟩⟩
theorem RecRows.upto (h : RecRows w RA rcap rs lo hi) (hh : hi ≤ hi') : RecRows w RA rcap rs lo hi' := by
  obtain ⟨cells, col, h⟩ := h
  exact ⟨cells, col, h.upto hh⟩
theorem RecRows.from_ {lo' : Nat} (h : RecRows w RA rcap rs lo hi) (hh : lo' ≤ lo) : RecRows w RA rcap rs lo' hi := by
  obtain ⟨cells, col, h1, h2⟩ := h
  refine ⟨cells, col, h1.mono fun b hb => ⟨by omega, hb.2⟩, fun i r hr => ?_⟩
  obtain ⟨DA, c, h3, h4⟩ := h2 i r hr
  exact ⟨DA, c, h3, h4.mono fun b hb => ⟨by omega, hb.2⟩⟩
theorem RecRows.nil (w : World) (lo hi : Nat) : RecRows w none 0 [] lo hi := ⟨[], fun _ => 0, Own.nil _ _ _ _, fun i r hr => by simp at hr⟩
/-- A row more. -/
theorem RecAt.snoc {RA' A' : Option Addr} {rcap' c' : Nat} {r : List UInt8} (h : RecAt w RA rcap rs lo w.heap.size cells col) (hlo : lo ≤ w.heap.size) (g1 : Grow w w1) (oA : Own w1 A' 5 1 r.length c' (bvs r) (fresh w)) (g2 : Grow w1 w2)
    (o3 : Own w3 RA' 22 1 (rs.length + 1) rcap' (cells ++ [.slice A' r.length c']) (fun b => (∃ a, RA = some a ∧ a.block = b) ∨ w2.heap.size ≤ b)) (c3 : Chg (fun b => ∃ a, RA = some a ∧ a.block = b) w2 w3) : RecRows w3 RA' rcap' (rs ++ [r]) lo w3.heap.size := by
  obtain ⟨h1, h2⟩ := h
  have z1 : w.heap.size ≤ w1.heap.size := g1.size
  have z2 : w1.heap.size ≤ w2.heap.size := g2.size
  have z3 : w2.heap.size ≤ w3.heap.size := c3.size
  have hcl : cells.length = rs.length := by have := h1.1; omega
  have ra : ∀ a, RA = some a → lo ≤ a.block ∧ a.block < w.heap.size ∧ col a.block = 0 := fun a ha => (h1.in_ ha).1
  refine ⟨cells ++ [.slice A' r.length c'], fun b => if b < w.heap.size then col b else if b < w1.heap.size then rs.length + 1 else 0, ?_, fun i x hx => ?_⟩
  · simp only [List.length_append, List.length_cons, List.length_nil]
    refine o3.zone fun a ha => ?_
    have hin := o3.in_ ha
    rcases hin.1 with ⟨a', ha', e⟩ | hb
    · have q := ra a' ha'
      rw [e] at q
      exact ⟨q.1, by omega, by show (if _ then _ else _) = _; rw [if_pos q.2.1]; exact q.2.2⟩
    · exact ⟨by omega, by omega, by show (if _ then _ else _) = _; rw [if_neg (by omega), if_neg (by omega)]⟩
  · rcases Nat.lt_or_ge i rs.length with hi | hi
    · rw [List.getElem?_append_left hi] at hx
      obtain ⟨DA, c, h3, h4⟩ := h2 i x hx
      refine ⟨DA, c, by rw [List.getElem?_append_left (by omega)]; exact h3, ?_⟩
      refine (((h4.grow g1).grow g2).keep c3 (by
        rintro b hb ⟨a, ha, e⟩
        have q := ra a ha
        rw [e] at q
        have := hb.2.2
        omega)).zone fun a ha => ?_
      have q := (h4.in_ ha).1
      exact ⟨q.1, by omega, by show (if _ then _ else _) = _; rw [if_pos q.2.1]; exact q.2.2⟩
    · have hin : i = rs.length := by
        have := (List.getElem?_eq_some_iff.1 hx).1
        simp at this; omega
      subst hin
      rw [List.getElem?_append_right (Nat.le_refl _), Nat.sub_self] at hx
      simp only [List.getElem?_cons_zero, Option.some.injEq] at hx
      subst hx
      refine ⟨A', c', by rw [← hcl]; simp, ?_⟩
      refine ((oA.grow g2).keep c3 (by
        rintro b hb ⟨a, ha, e⟩
        have q := ra a ha
        have hb' : w.heap.size ≤ b := hb
        omega)).zone fun a ha => ?_
      have q := oA.in_ ha
      have q1 : w.heap.size ≤ a.block := q.1
      exact ⟨by omega, by omega, by show (if _ then _ else _) = _; rw [if_neg (by omega), if_pos q.2]⟩
end

/-- What Open hands back. -/
def Opened (X : Nat → Prop) (w w' : World) (db : Nat) (v : Value) (r : Option (List (List UInt8)) × Int × PD) : Prop :=
  ∃ hi, w.heap.size ≤ hi ∧ One (fun k => X k ∨ w.heap.size ≤ k ∧ k < hi) w' db r.2.2 ∧ Chg (fun k => ¬ X k) w w' ∧
    match r.1 with
    | none => v = .tuple #[.pointer none, .slice none 0 0, .int .i64 r.2.1]
    | some rs => ∃ nb RA rcap, v = .tuple #[.pointer (some ⟨nb, 0, none⟩), .slice RA rs.length rcap, .int .i64 0] ∧ IsNode w' nb db rs.length false ∧ w.heap.size ≤ nb ∧ nb < hi ∧ RecRows w' RA rcap rs w.heap.size hi

theorem open61 {X : Nat → Prop} {w : World} {db : Nat} {d : PD} {M : Nat} (h : One X w db d) (hf : Fit d M) (hM : M ≤ 68719476736) :
    Ret Try.prog 61 #[.pointer (some ⟨db, 0, none⟩)] w fun v w' => Opened X w w' db v d.nopen := by
  have hM' : M ≤ 1099511627776 := by omega
  have lm := read1_len hf sMarks
  have ll := read1_len hf sLog
  refine Ret.enter (fn := Try.f61) (N := 101) Try.func61 rfl Try.ntmps61 rfl ?_
  repeat (first | refine WL.nil ?_ | refine WL.auto (h := ?_) | refine WL.gskip rfl rfl rfl rfl ?_ | refine WL.gauto (h := ?_) | (refine CW.seq ?_; intro K hK) | refine CW.block ?_ | refine CW.region ?_ | refine CW.skip ?_ | refine CW.exit ?_ | refine CW.ret ?_ | (refine thn_ret (K := K) ?_; clear hK K) | refine thn_ret ?_ | refine blk_ret ?_ | (refine thn_exit (K := K) ?_; clear hK K) | refine thn_exit ?_ | refine blk_here ?_ | refine blk_past rfl ?_ | refine thn_norm ?_ | refine blk_norm ?_ | refine CW.condT rfl ?_ | refine CW.condF rfl ?_ | (refine hK _ _ ?_; clear hK K))
  first | refine WL.step rfl ?_ | refine WL.gstep rfl rfl rfl rfl ?_
  refine OpW.call ((read87 sMarks (readOD h sMarks hf hM')).mono ?_) rfl
  rintro v w1 ⟨A5, c5, rfl, o5, g1⟩
  have h1 := h.grow g1
  have e0 : d.nopen = if (d.read1 sMarks).2.2 ≠ 0 then (none, (d.read1 sMarks).2.2, d) else if (d.read1 sLog).2.2 ≠ 0 then (none, (d.read1 sLog).2.2, d) else
      match cutN (d.read1 sLog).1 (ones (d.read1 sMarks).1) with
      | none => (none, 52, d)
      | some p => if (d.settled (d.read1 sMarks) (d.read1 sLog) (ones (d.read1 sMarks).1) p.2).1 ≠ 0 then (none, (d.settled (d.read1 sMarks) (d.read1 sLog) (ones (d.read1 sMarks).1) p.2).1, (d.settled (d.read1 sMarks) (d.read1 sLog) (ones (d.read1 sMarks).1) p.2).2) else (some p.1, 0, (d.settled (d.read1 sMarks) (d.read1 sLog) (ones (d.read1 sMarks).1) p.2).2) := rfl
  generalize d.read1 sMarks = m at *
  obtain ⟨mb, mh, me⟩ := m
  simp only at o5 e0 lm
  repeat (first | refine WL.nil ?_ | refine WL.auto (h := ?_) | refine WL.gskip rfl rfl rfl rfl ?_ | refine WL.gauto (h := ?_) | (refine CW.seq ?_; intro K hK) | refine CW.block ?_ | refine CW.region ?_ | refine CW.skip ?_ | refine CW.exit ?_ | refine CW.ret ?_ | (refine thn_ret (K := K) ?_; clear hK K) | refine thn_ret ?_ | refine blk_ret ?_ | (refine thn_exit (K := K) ?_; clear hK K) | refine thn_exit ?_ | refine blk_here ?_ | refine blk_past rfl ?_ | refine thn_norm ?_ | refine blk_norm ?_ | refine CW.condT rfl ?_ | refine CW.condF rfl ?_ | (refine hK _ _ ?_; clear hK K))
  refine CW.condP rfl (fun hm => ?_) (fun hm => ?_)
  · rw [if_pos hm] at e0
    repeat (first | refine WL.nil ?_ | refine WL.auto (h := ?_) | refine WL.gskip rfl rfl rfl rfl ?_ | refine WL.gauto (h := ?_) | (refine CW.seq ?_; intro K hK) | refine CW.block ?_ | refine CW.region ?_ | refine CW.skip ?_ | refine CW.exit ?_ | refine CW.ret ?_ | (refine thn_ret (K := K) ?_; clear hK K) | refine thn_ret ?_ | refine blk_ret ?_ | (refine thn_exit (K := K) ?_; clear hK K) | refine thn_exit ?_ | refine blk_here ?_ | refine blk_past rfl ?_ | refine thn_norm ?_ | refine blk_norm ?_ | refine CW.condT rfl ?_ | refine CW.condF rfl ?_ | (refine hK _ _ ?_; clear hK K))
    refine out3 (v1 := .pointer none) (v2 := .slice none 0 0) (v3 := .int .i64 me) Try.results61 rfl rfl rfl ?_ (Or.inr rfl)
    rw [e0]
    exact ⟨w1.heap.size, g1.size, h.more g1, Chg.to g1, rfl⟩
  rw [if_neg hm] at e0
  repeat (first | refine WL.nil ?_ | refine WL.auto (h := ?_) | refine WL.gskip rfl rfl rfl rfl ?_ | refine WL.gauto (h := ?_) | (refine CW.seq ?_; intro K hK) | refine CW.block ?_ | refine CW.region ?_ | refine CW.skip ?_ | refine CW.exit ?_ | refine CW.ret ?_ | (refine thn_ret (K := K) ?_; clear hK K) | refine thn_ret ?_ | refine blk_ret ?_ | (refine thn_exit (K := K) ?_; clear hK K) | refine thn_exit ?_ | refine blk_here ?_ | refine blk_past rfl ?_ | refine thn_norm ?_ | refine blk_norm ?_ | refine CW.condT rfl ?_ | refine CW.condF rfl ?_ | (refine hK _ _ ?_; clear hK K))
  first | refine WL.step rfl ?_ | refine WL.gstep rfl rfl rfl rfl ?_
  refine OpW.call ((read87 sLog (readOD h1 sLog hf hM')).mono ?_) rfl
  rintro v w2 ⟨A8, c8, rfl, o8, g2⟩
  have h2 := h1.grow g2
  replace o5 := o5.grow g2
  generalize d.read1 sLog = l at *
  obtain ⟨lb, lh, le⟩ := l
  simp only at o8 e0 ll
  repeat (first | refine WL.nil ?_ | refine WL.auto (h := ?_) | refine WL.gskip rfl rfl rfl rfl ?_ | refine WL.gauto (h := ?_) | (refine CW.seq ?_; intro K hK) | refine CW.block ?_ | refine CW.region ?_ | refine CW.skip ?_ | refine CW.exit ?_ | refine CW.ret ?_ | (refine thn_ret (K := K) ?_; clear hK K) | refine thn_ret ?_ | refine blk_ret ?_ | (refine thn_exit (K := K) ?_; clear hK K) | refine thn_exit ?_ | refine blk_here ?_ | refine blk_past rfl ?_ | refine thn_norm ?_ | refine blk_norm ?_ | refine CW.condT rfl ?_ | refine CW.condF rfl ?_ | (refine hK _ _ ?_; clear hK K))
  refine CW.condP rfl (fun hl => ?_) (fun hl => ?_)
  · rw [if_pos hl] at e0
    repeat (first | refine WL.nil ?_ | refine WL.auto (h := ?_) | refine WL.gskip rfl rfl rfl rfl ?_ | refine WL.gauto (h := ?_) | (refine CW.seq ?_; intro K hK) | refine CW.block ?_ | refine CW.region ?_ | refine CW.skip ?_ | refine CW.exit ?_ | refine CW.ret ?_ | (refine thn_ret (K := K) ?_; clear hK K) | refine thn_ret ?_ | refine blk_ret ?_ | (refine thn_exit (K := K) ?_; clear hK K) | refine thn_exit ?_ | refine blk_here ?_ | refine blk_past rfl ?_ | refine thn_norm ?_ | refine blk_norm ?_ | refine CW.condT rfl ?_ | refine CW.condF rfl ?_ | (refine hK _ _ ?_; clear hK K))
    refine out3 (v1 := .pointer none) (v2 := .slice none 0 0) (v3 := .int .i64 le) Try.results61 rfl rfl rfl ?_ (Or.inr rfl)
    rw [e0]
    exact ⟨w2.heap.size, (g1.then g2).size, h.more (g1.then g2), Chg.to (g1.then g2), rfl⟩
  rw [if_neg hl] at e0
  have hle : le = 0 := by simpa using hl
  subst hle
  have hol := ones_le mb
  repeat (first | refine WL.nil ?_ | refine WL.auto (h := ?_) | refine WL.gskip rfl rfl rfl rfl ?_ | refine WL.gauto (h := ?_) | (refine CW.seq ?_; intro K hK) | refine CW.block ?_ | refine CW.region ?_ | refine CW.skip ?_ | refine CW.exit ?_ | refine CW.ret ?_ | (refine thn_ret (K := K) ?_; clear hK K) | refine thn_ret ?_ | refine blk_ret ?_ | (refine thn_exit (K := K) ?_; clear hK K) | refine thn_exit ?_ | refine blk_here ?_ | refine blk_past rfl ?_ | refine thn_norm ?_ | refine blk_norm ?_ | refine CW.condT rfl ?_ | refine CW.condF rfl ?_ | (refine hK _ _ ?_; clear hK K))
  first | refine WL.step rfl ?_ | refine WL.gstep rfl rfl rfl rfl ?_
  refine OpW.call ((index88 A5 c5 mb w2 o5.sl (by omega)).mono ?_) rfl
  rintro v w3 ⟨rfl, g3⟩
  repeat (first | refine WL.nil ?_ | refine WL.auto (h := ?_) | refine WL.gskip rfl rfl rfl rfl ?_ | refine WL.gauto (h := ?_) | (refine CW.seq ?_; intro K hK) | refine CW.block ?_ | refine CW.region ?_ | refine CW.skip ?_ | refine CW.exit ?_ | refine CW.ret ?_ | (refine thn_ret (K := K) ?_; clear hK K) | refine thn_ret ?_ | refine blk_ret ?_ | (refine thn_exit (K := K) ?_; clear hK K) | refine thn_exit ?_ | refine blk_here ?_ | refine blk_past rfl ?_ | refine thn_norm ?_ | refine blk_norm ?_ | refine CW.condT rfl ?_ | refine CW.condF rfl ?_ | (refine hK _ _ ?_; clear hK K))
  first | refine WL.step rfl ?_ | refine WL.gstep rfl rfl rfl rfl ?_
  refine OpW.build (cells := #[.pointer (some ⟨db, 0, none⟩), .int .i64 (firstNot mb), .bool false]) rfl rfl ?_
  repeat (first | refine WL.nil ?_ | refine WL.auto (h := ?_) | refine WL.gskip rfl rfl rfl rfl ?_ | refine WL.gauto (h := ?_) | (refine CW.seq ?_; intro K hK) | refine CW.block ?_ | refine CW.region ?_ | refine CW.skip ?_ | refine CW.exit ?_ | refine CW.ret ?_ | (refine thn_ret (K := K) ?_; clear hK K) | refine thn_ret ?_ | refine blk_ret ?_ | (refine thn_exit (K := K) ?_; clear hK K) | refine thn_exit ?_ | refine blk_here ?_ | refine blk_past rfl ?_ | refine thn_norm ?_ | refine blk_norm ?_ | refine CW.condT rfl ?_ | refine CW.condF rfl ?_ | (refine hK _ _ ?_; clear hK K))
  first | refine WL.step rfl ?_ | refine WL.gstep rfl rfl rfl rfl ?_
  refine OpW.box (v := .agg #[.pointer (some ⟨db, 0, none⟩), .int .i64 (firstNot mb), .bool false]) rfl ?_
  intro nb w4 n4
  have hnb : Blk w4 nb #[.pointer (some ⟨db, 0, none⟩), .int .i64 (firstNot mb), .bool false] 125 := n4.blk
  have gw3 := g1.then (g2.then g3)
  have gw4 := gw3.then n4.grow
  have nlo : w.heap.size ≤ nb := by have := n4.fresh; have := gw3.size; omega
  repeat (first | refine WL.nil ?_ | refine WL.auto (h := ?_) | refine WL.gskip rfl rfl rfl rfl ?_ | refine WL.gauto (h := ?_) | (refine CW.seq ?_; intro K hK) | refine CW.block ?_ | refine CW.region ?_ | refine CW.skip ?_ | refine CW.exit ?_ | refine CW.ret ?_ | (refine thn_ret (K := K) ?_; clear hK K) | refine thn_ret ?_ | refine blk_ret ?_ | (refine thn_exit (K := K) ?_; clear hK K) | refine thn_exit ?_ | refine blk_here ?_ | refine blk_past rfl ?_ | refine thn_norm ?_ | refine blk_norm ?_ | refine CW.condT rfl ?_ | refine CW.condF rfl ?_ | (refine hK _ _ ?_; clear hK K))
  have key : ∀ (w5 : World), IsNode w5 nb db (ones mb) false → Grow w3 w5 → ∀ e0, K (upd (upd (upd (upd (upd (upd (upd e0 0 (.pointer (some ⟨db, 0, none⟩))) 5 (.slice A5 mb.length c5)) 6 (.bool mh)) 7 (.int .i64 0)) 8 (.slice A8 lb.length c8)) 9 (.bool lh)) 10 (.pointer (some ⟨nb, 0, none⟩))) w5 := by
    intro w5 hn5 g5 E0
    refine hK _ _ ?_
    clear hK
    have gw5 := gw3.then g5
    have hb5 : Blk w5 nb #[.pointer (some ⟨db, 0, none⟩), .int .i64 ((ones mb : Nat) : Int), .bool false] 125 := hn5
    have o85 := (o8.grow g3).grow g5
    repeat (first | refine WL.nil ?_ | refine WL.auto (h := ?_) | refine WL.gskip rfl rfl rfl rfl ?_ | refine WL.gauto (h := ?_) | (refine CW.seq ?_; intro K hK) | refine CW.block ?_ | refine CW.region ?_ | refine CW.skip ?_ | refine CW.exit ?_ | refine CW.ret ?_ | (refine thn_ret (K := K) ?_; clear hK K) | refine thn_ret ?_ | refine blk_ret ?_ | (refine thn_exit (K := K) ?_; clear hK K) | refine thn_exit ?_ | refine blk_here ?_ | refine blk_past rfl ?_ | refine thn_norm ?_ | refine blk_norm ?_ | refine CW.condT rfl ?_ | refine CW.condF rfl ?_ | (refine hK _ _ ?_; clear hK K))
    refine CW.loop (fun n' e w6 => ∃ (k : Nat) (rs : List (List UInt8)) (rest : List UInt8) (RA C : Option Addr) (rcap cc : Nat), k ≤ ones mb ∧ n' = ones mb - k ∧ cutN lb k = some (rs, rest) ∧ Sl w6 C (bvs rest) ∧ (∀ a, C = some a → a.block < w5.heap.size) ∧ rest.length ≤ cc ∧ RecRows w6 RA rcap rs w5.heap.size w6.heap.size ∧ Grow w5 w6 ∧
      ∃ e0, e = upd (upd (upd (upd (upd (upd (upd (upd (upd (upd (upd e0 0 (.pointer (some ⟨db, 0, none⟩))) 5 (.slice A5 mb.length c5)) 6 (.bool mh)) 7 (.int .i64 0)) 8 (.slice A8 lb.length c8)) 9 (.bool lh)) 10 (.pointer (some ⟨nb, 0, none⟩))) 11 (.slice RA rs.length rcap)) 12 (.slice C rest.length cc)) 55 (.int .i64 (ones mb : Nat))) 56 (.int .i64 k)) (ones mb) ?_ ?_
    · exact ⟨0, [], lb, none, A8, 0, c8, by omega, rfl, rfl, o85.sl, fun a ha => (o85.in_ ha).2, o85.le, RecRows.nil _ _ _, Chg.refl _ _, rep11 rfl rfl rfl rfl rfl rfl rfl rfl rfl rfl rfl⟩
    rintro n' e w6 ⟨k, rs, rest, RA, C, rcap, cc, hk, rfl, hcut, hsC, hCl, hcc, hrec, g6, e0', rfl⟩ KJ hJ
    have hrl := cutN_len hcut
    simp only at hrl
    repeat (first | refine WL.nil ?_ | refine WL.auto (h := ?_) | refine WL.gskip rfl rfl rfl rfl ?_ | refine WL.gauto (h := ?_) | (refine CW.seq ?_; intro K hK) | refine CW.block ?_ | refine CW.region ?_ | refine CW.skip ?_ | refine CW.exit ?_ | refine CW.ret ?_ | (refine thn_ret (K := K) ?_; clear hK K) | refine thn_ret ?_ | refine blk_ret ?_ | (refine thn_exit (K := K) ?_; clear hK K) | refine thn_exit ?_ | refine blk_here ?_ | refine blk_past rfl ?_ | refine thn_norm ?_ | refine blk_norm ?_ | refine CW.condT rfl ?_ | refine CW.condF rfl ?_ | (refine hK _ _ ?_; clear hK K))
    refine CW.condP rfl (fun hc => ?_) (fun hc => ?_)
    · have hkl : k < ones mb := by omega
      have gw6 := gw5.then g6
      repeat (first | refine WL.nil ?_ | refine WL.auto (h := ?_) | refine WL.gskip rfl rfl rfl rfl ?_ | refine WL.gauto (h := ?_) | (refine CW.seq ?_; intro K hK) | refine CW.block ?_ | refine CW.region ?_ | refine CW.skip ?_ | refine CW.exit ?_ | refine CW.ret ?_ | (refine thn_ret (K := K) ?_; clear hK K) | refine thn_ret ?_ | refine blk_ret ?_ | (refine thn_exit (K := K) ?_; clear hK K) | refine thn_exit ?_ | refine blk_here ?_ | refine blk_past rfl ?_ | refine thn_norm ?_ | refine blk_norm ?_ | refine CW.condT rfl ?_ | refine CW.condF rfl ?_ | (refine hK _ _ ?_; clear hK K))
      first | refine WL.step rfl ?_ | refine WL.gstep rfl rfl rfl rfl ?_
      refine OpW.call ((cut90 C cc rest w6 hsC (by omega) hcc).mono ?_) rfl
      rintro v w7 ⟨hq', g7⟩
      have gw7 := gw6.then g7
      cases hq : cutOne rest with
      | none =>
        rw [hq] at hq'
        obtain rfl := hq'
        have hno : cutN lb (ones mb) = none := cutN_none (n := k + 1) (by rw [cutN, hcut]; simp only; rw [hq]) (by omega)
        rw [hno] at e0
        simp only at e0
        repeat (first | refine WL.nil ?_ | refine WL.auto (h := ?_) | refine WL.gskip rfl rfl rfl rfl ?_ | refine WL.gauto (h := ?_) | (refine CW.seq ?_; intro K hK) | refine CW.block ?_ | refine CW.region ?_ | refine CW.skip ?_ | refine CW.exit ?_ | refine CW.ret ?_ | (refine thn_ret (K := K) ?_; clear hK K) | refine thn_ret ?_ | refine blk_ret ?_ | (refine thn_exit (K := K) ?_; clear hK K) | refine thn_exit ?_ | refine blk_here ?_ | refine blk_past rfl ?_ | refine thn_norm ?_ | refine blk_norm ?_ | refine CW.condT rfl ?_ | refine CW.condF rfl ?_ | (refine hK _ _ ?_; clear hK K))
        refine out3 (v1 := .pointer none) (v2 := .slice none 0 0) (v3 := .int .i64 52) Try.results61 rfl rfl rfl ?_ (Or.inr rfl)
        rw [e0]
        exact ⟨w7.heap.size, gw7.size, h.more gw7, Chg.to gw7, rfl⟩
      | some q =>
        rw [hq] at hq'
        obtain ⟨B, C', bc, cc', rfl, sB, sC, hcc', hCz⟩ := hq'
        have hql := cutOne_len hq
        have hcut' : cutN lb (k + 1) = some (rs ++ [q.1], q.2) := by rw [cutN, hcut]; simp only; rw [hq]
        obtain ⟨cells, col, hr6⟩ := hrec
        have hr7 := (hr6.keep g7 fun _ _ _ hf => hf).upto g7.size
        repeat (first | refine WL.nil ?_ | refine WL.auto (h := ?_) | refine WL.gskip rfl rfl rfl rfl ?_ | refine WL.gauto (h := ?_) | (refine CW.seq ?_; intro K hK) | refine CW.block ?_ | refine CW.region ?_ | refine CW.skip ?_ | refine CW.exit ?_ | refine CW.ret ?_ | (refine thn_ret (K := K) ?_; clear hK K) | refine thn_ret ?_ | refine blk_ret ?_ | (refine thn_exit (K := K) ?_; clear hK K) | refine thn_exit ?_ | refine blk_here ?_ | refine blk_past rfl ?_ | refine thn_norm ?_ | refine blk_norm ?_ | refine CW.condT rfl ?_ | refine CW.condF rfl ?_ | (refine hK _ _ ?_; clear hK K))
        first | refine WL.step rfl ?_ | refine WL.gstep rfl rfl rfl rfl ?_
        refine OpW.call ((clone73 _ _ _ _ sB (by omega)).mono ?_) rfl
        rintro v w8 ⟨A9, c9, rfl, o9, g8⟩
        repeat (first | refine WL.nil ?_ | refine WL.auto (h := ?_) | refine WL.gskip rfl rfl rfl rfl ?_ | refine WL.gauto (h := ?_) | (refine CW.seq ?_; intro K hK) | refine CW.block ?_ | refine CW.region ?_ | refine CW.skip ?_ | refine CW.exit ?_ | refine CW.ret ?_ | (refine thn_ret (K := K) ?_; clear hK K) | refine thn_ret ?_ | refine blk_ret ?_ | (refine thn_exit (K := K) ?_; clear hK K) | refine thn_exit ?_ | refine blk_here ?_ | refine blk_past rfl ?_ | refine thn_norm ?_ | refine blk_norm ?_ | refine CW.condT rfl ?_ | refine CW.condF rfl ?_ | (refine hK _ _ ?_; clear hK K))
        first | refine WL.step rfl ?_ | refine WL.gstep rfl rfl rfl rfl ?_
        refine OpW.buildLit [.slice A9 q.1.length c9] rfl rfl rfl (lit1 _ rfl) ?_
        intro b9 w9 n9
        repeat (first | refine WL.nil ?_ | refine WL.auto (h := ?_) | refine WL.gskip rfl rfl rfl rfl ?_ | refine WL.gauto (h := ?_) | (refine CW.seq ?_; intro K hK) | refine CW.block ?_ | refine CW.region ?_ | refine CW.skip ?_ | refine CW.exit ?_ | refine CW.ret ?_ | (refine thn_ret (K := K) ?_; clear hK K) | refine thn_ret ?_ | refine blk_ret ?_ | (refine thn_exit (K := K) ?_; clear hK K) | refine thn_exit ?_ | refine blk_here ?_ | refine blk_past rfl ?_ | refine thn_norm ?_ | refine blk_norm ?_ | refine CW.condT rfl ?_ | refine CW.condF rfl ?_ | (refine hK _ _ ?_; clear hK K))
        first | refine WL.step rfl ?_ | refine WL.gstep rfl rfl rfl rfl ?_
        refine OpW.append (ys := [.slice A9 q.1.length c9]) rfl rfl rfl (hr7.1.grow (g8.then n9.grow)) (blk_sl_lit n9) rfl (one1 _ rfl) ⟨by omega, by omega⟩ (fun RA' rcap' w10 o10 c10 _ => ?_)
        have hrec' := hr7.snoc (g6.then g7).size g8 o9 n9.grow (o10.mono fun b hb => hb) c10
        have ra : ∀ a, RA = some a → w5.heap.size ≤ a.block := fun a ha => (hr7.1.in_ ha).1.1
        have g510 : Grow w5 w10 := ((g6.then g7).then (g8.then n9.grow)).chgNew c10 (by rintro i hi ⟨a, ha, e⟩; have := ra a ha; omega)
        have hCl' : ∀ a, C' = some a → a.block < w5.heap.size := fun a ha => by
          obtain ⟨a0, h1, h2⟩ := hCz a ha
          rw [← h2]; exact hCl a0 h1
        repeat (first | refine WL.nil ?_ | refine WL.auto (h := ?_) | refine WL.gskip rfl rfl rfl rfl ?_ | refine WL.gauto (h := ?_) | (refine CW.seq ?_; intro K hK) | refine CW.block ?_ | refine CW.region ?_ | refine CW.skip ?_ | refine CW.exit ?_ | refine CW.ret ?_ | (refine thn_ret (K := K) ?_; clear hK K) | refine thn_ret ?_ | refine blk_ret ?_ | (refine thn_exit (K := K) ?_; clear hK K) | refine thn_exit ?_ | refine blk_here ?_ | refine blk_past rfl ?_ | refine thn_norm ?_ | refine blk_norm ?_ | refine CW.condT rfl ?_ | refine CW.condF rfl ?_ | (refine hK _ _ ?_; clear hK K))
        exact hJ (ones mb - (k + 1)) _ _ (by omega) ⟨k + 1, rs ++ [q.1], q.2, RA', C', rcap', cc', by omega, rfl, hcut', (sC.grow (g8.then n9.grow)).keep c10 (by
          rintro a ha ⟨a', ha', e⟩
          have q1 := hCl' a ha
          have q2 := ra a' ha'
          omega), hCl', hcc', hrec', g510, rep11 rfl rfl rfl rfl rfl rfl rfl (congrArg (fun n => Value.slice RA' n rcap') (by simp)) rfl rfl (congrArg (Value.int .i64) (by omega))⟩
    · obtain rfl : k = ones mb := by omega
      clear hJ
      rw [hcut] at e0
      simp only at e0
      have gw6 := gw5.then g6
      have h6 := h.more gw6
      have z5 : w.heap.size ≤ w5.heap.size := gw5.size
      have hnX : ¬ ¬ (X nb ∨ w.heap.size ≤ nb ∧ nb < w6.heap.size) := fun hn => hn (Or.inr ⟨nlo, by have := (hb5.grow g6).lt; omega⟩)
      have hb6 := hb5.grow g6
      have hrecX : ∀ b, w5.heap.size ≤ b → b < w6.heap.size → ¬ ¬ (X b ∨ w.heap.size ≤ b ∧ b < w6.heap.size) := fun b h1 h2 hn => hn (Or.inr ⟨by omega, h2⟩)
      have toX : ∀ {w' : World}, Chg (fun k => ¬ (X k ∨ w.heap.size ≤ k ∧ k < w6.heap.size)) w6 w' → Chg (fun k => ¬ X k) w w' := fun c => Grow.chg gw6 (c.mono fun k _ hk hx => hk (Or.inl hx))
      repeat (first | refine WL.nil ?_ | refine WL.auto (h := ?_) | refine WL.gskip rfl rfl rfl rfl ?_ | refine WL.gauto (h := ?_) | (refine CW.seq ?_; intro K hK) | refine CW.block ?_ | refine CW.region ?_ | refine CW.skip ?_ | refine CW.exit ?_ | refine CW.ret ?_ | (refine thn_ret (K := K) ?_; clear hK K) | refine thn_ret ?_ | refine blk_ret ?_ | (refine thn_exit (K := K) ?_; clear hK K) | refine thn_exit ?_ | refine blk_here ?_ | refine blk_past rfl ?_ | refine thn_norm ?_ | refine blk_norm ?_ | refine CW.condT rfl ?_ | refine CW.condF rfl ?_ | (refine hK _ _ ?_; clear hK K))
      have key2 : ∀ (w7 : World), One (fun k => X k ∨ w.heap.size ≤ k ∧ k < w6.heap.size) w7 db (d.settled1 (mb, mh, me) (ones mb)).2 → Chg (fun k => ¬ (X k ∨ w.heap.size ≤ k ∧ k < w6.heap.size)) w6 w7 →
          ∀ e0, K (upd (upd (upd (upd (upd (upd (upd e0 0 (.pointer (some ⟨db, 0, none⟩))) 7 (.int .i64 (d.settled1 (mb, mh, me) (ones mb)).1)) 8 (.slice A8 lb.length c8)) 9 (.bool lh)) 10 (.pointer (some ⟨nb, 0, none⟩))) 11 (.slice RA rs.length rcap)) 12 (.slice C rest.length cc)) w7 := by
        intro w7 h7 c7 E1
        refine hK _ _ ?_
        clear hK
        have hf1 := hf.settled1 (mb, mh, me) (ones mb)
        have e2 : d.settled (mb, mh, me) (lb, lh, 0) (ones mb) rest = PD.settled2 (d.settled1 (mb, mh, me) (ones mb)) (lb, lh, 0) rest := rfl
        rw [e2] at e0
        generalize d.settled1 (mb, mh, me) (ones mb) = r1 at *
        obtain ⟨s1, d1⟩ := r1
        simp only at h7 hf1
        have e3 : PD.settled2 (s1, d1) (lb, lh, 0) rest = if lh = true ∧ s1 = 0 then d1.settle sLog lb.length (lb.length - rest.length) else (s1, d1) := rfl
        generalize PD.settled2 (s1, d1) (lb, lh, 0) rest = r2 at *
        obtain ⟨s2, d2⟩ := r2
        simp only at e0
        cases lh with
        | false =>
          rw [if_neg (by simp)] at e3
          cases e3
          have h8 := h7
          have c8 := c7
          (
  repeat (first | refine WL.nil ?_ | refine WL.auto (h := ?_) | refine WL.gskip rfl rfl rfl rfl ?_ | refine WL.gauto (h := ?_) | (refine CW.seq ?_; intro K hK) | refine CW.block ?_ | refine CW.region ?_ | refine CW.skip ?_ | refine CW.exit ?_ | refine CW.ret ?_ | (refine thn_ret (K := K) ?_; clear hK K) | refine thn_ret ?_ | refine blk_ret ?_ | (refine thn_exit (K := K) ?_; clear hK K) | refine thn_exit ?_ | refine blk_here ?_ | refine blk_past rfl ?_ | refine thn_norm ?_ | refine blk_norm ?_ | refine CW.condT rfl ?_ | refine CW.condF rfl ?_ | (refine hK _ _ ?_; clear hK K))
  refine CW.condP rfl (fun hs2 => ?_) (fun hs2 => ?_)
  · rw [if_pos hs2] at e0
    repeat (first | refine WL.nil ?_ | refine WL.auto (h := ?_) | refine WL.gskip rfl rfl rfl rfl ?_ | refine WL.gauto (h := ?_) | (refine CW.seq ?_; intro K hK) | refine CW.block ?_ | refine CW.region ?_ | refine CW.skip ?_ | refine CW.exit ?_ | refine CW.ret ?_ | (refine thn_ret (K := K) ?_; clear hK K) | refine thn_ret ?_ | refine blk_ret ?_ | (refine thn_exit (K := K) ?_; clear hK K) | refine thn_exit ?_ | refine blk_here ?_ | refine blk_past rfl ?_ | refine thn_norm ?_ | refine blk_norm ?_ | refine CW.condT rfl ?_ | refine CW.condF rfl ?_ | (refine hK _ _ ?_; clear hK K))
    refine out3 (v1 := .pointer none) (v2 := .slice none 0 0) (v3 := .int .i64 _) Try.results61 rfl rfl rfl ?_ (Or.inr rfl)
    rw [e0]
    exact ⟨w6.heap.size, gw6.size, h8, toX c8, rfl⟩
  · rw [if_neg hs2] at e0
    repeat (first | refine WL.nil ?_ | refine WL.auto (h := ?_) | refine WL.gskip rfl rfl rfl rfl ?_ | refine WL.gauto (h := ?_) | (refine CW.seq ?_; intro K hK) | refine CW.block ?_ | refine CW.region ?_ | refine CW.skip ?_ | refine CW.exit ?_ | refine CW.ret ?_ | (refine thn_ret (K := K) ?_; clear hK K) | refine thn_ret ?_ | refine blk_ret ?_ | (refine thn_exit (K := K) ?_; clear hK K) | refine thn_exit ?_ | refine blk_here ?_ | refine blk_past rfl ?_ | refine thn_norm ?_ | refine blk_norm ?_ | refine CW.condT rfl ?_ | refine CW.condF rfl ?_ | (refine hK _ _ ?_; clear hK K))
    refine out3 (v1 := .pointer (some ⟨nb, 0, none⟩)) (v2 := .slice RA rs.length rcap) (v3 := .int .i64 0) Try.results61 rfl rfl rfl ?_ (Or.inr rfl)
    rw [e0]
    refine ⟨w6.heap.size, gw6.size, h8, toX c8, nb, RA, rcap, rfl, ?_, nlo, hb6.lt, (hrec.keep c8 hrecX).from_ z5⟩
    rw [hrl.1]
    exact hb6.keep c8 hnX)
        | true =>
          by_cases hs1 : s1 = 0
          · rw [if_pos ⟨rfl, hs1⟩] at e3
            repeat (first | refine WL.nil ?_ | refine WL.auto (h := ?_) | refine WL.gskip rfl rfl rfl rfl ?_ | refine WL.gauto (h := ?_) | (refine CW.seq ?_; intro K hK) | refine CW.block ?_ | refine CW.region ?_ | refine CW.skip ?_ | refine CW.exit ?_ | refine CW.ret ?_ | (refine thn_ret (K := K) ?_; clear hK K) | refine thn_ret ?_ | refine blk_ret ?_ | (refine thn_exit (K := K) ?_; clear hK K) | refine thn_exit ?_ | refine blk_here ?_ | refine blk_past rfl ?_ | refine thn_norm ?_ | refine blk_norm ?_ | refine CW.condT rfl ?_ | refine CW.condF rfl ?_ | (refine hK _ _ ?_; clear hK K))
            rw [decide_eq_true hs1]
            repeat (first | refine WL.nil ?_ | refine WL.auto (h := ?_) | refine WL.gskip rfl rfl rfl rfl ?_ | refine WL.gauto (h := ?_) | (refine CW.seq ?_; intro K hK) | refine CW.block ?_ | refine CW.region ?_ | refine CW.skip ?_ | refine CW.exit ?_ | refine CW.ret ?_ | (refine thn_ret (K := K) ?_; clear hK K) | refine thn_ret ?_ | refine blk_ret ?_ | (refine thn_exit (K := K) ?_; clear hK K) | refine thn_exit ?_ | refine blk_here ?_ | refine blk_past rfl ?_ | refine thn_norm ?_ | refine blk_norm ?_ | refine CW.condT rfl ?_ | refine CW.condF rfl ?_ | (refine hK _ _ ?_; clear hK K))
            rw [show (lb.length : Int) - (rest.length : Int) = ((lb.length - rest.length : Nat) : Int) from by omega]
            first | refine WL.step rfl ?_ | refine WL.gstep rfl rfl rfl rfl ?_
            refine OpW.call ((settle91 h7 sLog lb.length (lb.length - rest.length) hf1).mono ?_) rfl
            rintro v w8 ⟨rfl, h8, c8'⟩
            rw [← e3] at h8 ⊢
            have c8 := c7.andThen c8'
            (
  repeat (first | refine WL.nil ?_ | refine WL.auto (h := ?_) | refine WL.gskip rfl rfl rfl rfl ?_ | refine WL.gauto (h := ?_) | (refine CW.seq ?_; intro K hK) | refine CW.block ?_ | refine CW.region ?_ | refine CW.skip ?_ | refine CW.exit ?_ | refine CW.ret ?_ | (refine thn_ret (K := K) ?_; clear hK K) | refine thn_ret ?_ | refine blk_ret ?_ | (refine thn_exit (K := K) ?_; clear hK K) | refine thn_exit ?_ | refine blk_here ?_ | refine blk_past rfl ?_ | refine thn_norm ?_ | refine blk_norm ?_ | refine CW.condT rfl ?_ | refine CW.condF rfl ?_ | (refine hK _ _ ?_; clear hK K))
  refine CW.condP rfl (fun hs2 => ?_) (fun hs2 => ?_)
  · rw [if_pos hs2] at e0
    repeat (first | refine WL.nil ?_ | refine WL.auto (h := ?_) | refine WL.gskip rfl rfl rfl rfl ?_ | refine WL.gauto (h := ?_) | (refine CW.seq ?_; intro K hK) | refine CW.block ?_ | refine CW.region ?_ | refine CW.skip ?_ | refine CW.exit ?_ | refine CW.ret ?_ | (refine thn_ret (K := K) ?_; clear hK K) | refine thn_ret ?_ | refine blk_ret ?_ | (refine thn_exit (K := K) ?_; clear hK K) | refine thn_exit ?_ | refine blk_here ?_ | refine blk_past rfl ?_ | refine thn_norm ?_ | refine blk_norm ?_ | refine CW.condT rfl ?_ | refine CW.condF rfl ?_ | (refine hK _ _ ?_; clear hK K))
    refine out3 (v1 := .pointer none) (v2 := .slice none 0 0) (v3 := .int .i64 _) Try.results61 rfl rfl rfl ?_ (Or.inr rfl)
    rw [e0]
    exact ⟨w6.heap.size, gw6.size, h8, toX c8, rfl⟩
  · rw [if_neg hs2] at e0
    repeat (first | refine WL.nil ?_ | refine WL.auto (h := ?_) | refine WL.gskip rfl rfl rfl rfl ?_ | refine WL.gauto (h := ?_) | (refine CW.seq ?_; intro K hK) | refine CW.block ?_ | refine CW.region ?_ | refine CW.skip ?_ | refine CW.exit ?_ | refine CW.ret ?_ | (refine thn_ret (K := K) ?_; clear hK K) | refine thn_ret ?_ | refine blk_ret ?_ | (refine thn_exit (K := K) ?_; clear hK K) | refine thn_exit ?_ | refine blk_here ?_ | refine blk_past rfl ?_ | refine thn_norm ?_ | refine blk_norm ?_ | refine CW.condT rfl ?_ | refine CW.condF rfl ?_ | (refine hK _ _ ?_; clear hK K))
    refine out3 (v1 := .pointer (some ⟨nb, 0, none⟩)) (v2 := .slice RA rs.length rcap) (v3 := .int .i64 0) Try.results61 rfl rfl rfl ?_ (Or.inr rfl)
    rw [e0]
    refine ⟨w6.heap.size, gw6.size, h8, toX c8, nb, RA, rcap, rfl, ?_, nlo, hb6.lt, (hrec.keep c8 hrecX).from_ z5⟩
    rw [hrl.1]
    exact hb6.keep c8 hnX)
          · rw [if_neg (fun h => hs1 h.2)] at e3
            cases e3
            have h8 := h7
            have c8 := c7
            repeat (first | refine WL.nil ?_ | refine WL.auto (h := ?_) | refine WL.gskip rfl rfl rfl rfl ?_ | refine WL.gauto (h := ?_) | (refine CW.seq ?_; intro K hK) | refine CW.block ?_ | refine CW.region ?_ | refine CW.skip ?_ | refine CW.exit ?_ | refine CW.ret ?_ | (refine thn_ret (K := K) ?_; clear hK K) | refine thn_ret ?_ | refine blk_ret ?_ | (refine thn_exit (K := K) ?_; clear hK K) | refine thn_exit ?_ | refine blk_here ?_ | refine blk_past rfl ?_ | refine thn_norm ?_ | refine blk_norm ?_ | refine CW.condT rfl ?_ | refine CW.condF rfl ?_ | (refine hK _ _ ?_; clear hK K))
            rw [decide_eq_false hs1]
            (
  repeat (first | refine WL.nil ?_ | refine WL.auto (h := ?_) | refine WL.gskip rfl rfl rfl rfl ?_ | refine WL.gauto (h := ?_) | (refine CW.seq ?_; intro K hK) | refine CW.block ?_ | refine CW.region ?_ | refine CW.skip ?_ | refine CW.exit ?_ | refine CW.ret ?_ | (refine thn_ret (K := K) ?_; clear hK K) | refine thn_ret ?_ | refine blk_ret ?_ | (refine thn_exit (K := K) ?_; clear hK K) | refine thn_exit ?_ | refine blk_here ?_ | refine blk_past rfl ?_ | refine thn_norm ?_ | refine blk_norm ?_ | refine CW.condT rfl ?_ | refine CW.condF rfl ?_ | (refine hK _ _ ?_; clear hK K))
  refine CW.condP rfl (fun hs2 => ?_) (fun hs2 => ?_)
  · rw [if_pos hs2] at e0
    repeat (first | refine WL.nil ?_ | refine WL.auto (h := ?_) | refine WL.gskip rfl rfl rfl rfl ?_ | refine WL.gauto (h := ?_) | (refine CW.seq ?_; intro K hK) | refine CW.block ?_ | refine CW.region ?_ | refine CW.skip ?_ | refine CW.exit ?_ | refine CW.ret ?_ | (refine thn_ret (K := K) ?_; clear hK K) | refine thn_ret ?_ | refine blk_ret ?_ | (refine thn_exit (K := K) ?_; clear hK K) | refine thn_exit ?_ | refine blk_here ?_ | refine blk_past rfl ?_ | refine thn_norm ?_ | refine blk_norm ?_ | refine CW.condT rfl ?_ | refine CW.condF rfl ?_ | (refine hK _ _ ?_; clear hK K))
    refine out3 (v1 := .pointer none) (v2 := .slice none 0 0) (v3 := .int .i64 _) Try.results61 rfl rfl rfl ?_ (Or.inr rfl)
    rw [e0]
    exact ⟨w6.heap.size, gw6.size, h8, toX c8, rfl⟩
  · rw [if_neg hs2] at e0
    repeat (first | refine WL.nil ?_ | refine WL.auto (h := ?_) | refine WL.gskip rfl rfl rfl rfl ?_ | refine WL.gauto (h := ?_) | (refine CW.seq ?_; intro K hK) | refine CW.block ?_ | refine CW.region ?_ | refine CW.skip ?_ | refine CW.exit ?_ | refine CW.ret ?_ | (refine thn_ret (K := K) ?_; clear hK K) | refine thn_ret ?_ | refine blk_ret ?_ | (refine thn_exit (K := K) ?_; clear hK K) | refine thn_exit ?_ | refine blk_here ?_ | refine blk_past rfl ?_ | refine thn_norm ?_ | refine blk_norm ?_ | refine CW.condT rfl ?_ | refine CW.condF rfl ?_ | (refine hK _ _ ?_; clear hK K))
    refine out3 (v1 := .pointer (some ⟨nb, 0, none⟩)) (v2 := .slice RA rs.length rcap) (v3 := .int .i64 0) Try.results61 rfl rfl rfl ?_ (Or.inr rfl)
    rw [e0]
    refine ⟨w6.heap.size, gw6.size, h8, toX c8, nb, RA, rcap, rfl, ?_, nlo, hb6.lt, (hrec.keep c8 hrecX).from_ z5⟩
    rw [hrl.1]
    exact hb6.keep c8 hnX)
      clear hK
      cases mh with
      | false =>
        repeat (first | refine WL.nil ?_ | refine WL.auto (h := ?_) | refine WL.gskip rfl rfl rfl rfl ?_ | refine WL.gauto (h := ?_) | (refine CW.seq ?_; intro K hK) | refine CW.block ?_ | refine CW.region ?_ | refine CW.skip ?_ | refine CW.exit ?_ | refine CW.ret ?_ | (refine thn_ret (K := K) ?_; clear hK K) | refine thn_ret ?_ | refine blk_ret ?_ | (refine thn_exit (K := K) ?_; clear hK K) | refine thn_exit ?_ | refine blk_here ?_ | refine blk_past rfl ?_ | refine thn_norm ?_ | refine blk_norm ?_ | refine CW.condT rfl ?_ | refine CW.condF rfl ?_ | (refine hK _ _ ?_; clear hK K))
        exact K_of' (key2 w6 h6 (Chg.refl _ _)) (rep7 rfl rfl rfl rfl rfl rfl rfl)
      | true =>
        have e1 : d.settled1 (mb, true, me) (ones mb) = d.settle sMarks mb.length (ones mb) := rfl
        repeat (first | refine WL.nil ?_ | refine WL.auto (h := ?_) | refine WL.gskip rfl rfl rfl rfl ?_ | refine WL.gauto (h := ?_) | (refine CW.seq ?_; intro K hK) | refine CW.block ?_ | refine CW.region ?_ | refine CW.skip ?_ | refine CW.exit ?_ | refine CW.ret ?_ | (refine thn_ret (K := K) ?_; clear hK K) | refine thn_ret ?_ | refine blk_ret ?_ | (refine thn_exit (K := K) ?_; clear hK K) | refine thn_exit ?_ | refine blk_here ?_ | refine blk_past rfl ?_ | refine thn_norm ?_ | refine blk_norm ?_ | refine CW.condT rfl ?_ | refine CW.condF rfl ?_ | (refine hK _ _ ?_; clear hK K))
        first | refine WL.step rfl ?_ | refine WL.gstep rfl rfl rfl rfl ?_
        refine OpW.call ((settle91 h6 sMarks mb.length (ones mb) hf).mono ?_) rfl
        rintro v w7 ⟨rfl, h7, c7⟩
        repeat (first | refine WL.nil ?_ | refine WL.auto (h := ?_) | refine WL.gskip rfl rfl rfl rfl ?_ | refine WL.gauto (h := ?_) | (refine CW.seq ?_; intro K hK) | refine CW.block ?_ | refine CW.region ?_ | refine CW.skip ?_ | refine CW.exit ?_ | refine CW.ret ?_ | (refine thn_ret (K := K) ?_; clear hK K) | refine thn_ret ?_ | refine blk_ret ?_ | (refine thn_exit (K := K) ?_; clear hK K) | refine thn_exit ?_ | refine blk_here ?_ | refine blk_past rfl ?_ | refine thn_norm ?_ | refine blk_norm ?_ | refine CW.condT rfl ?_ | refine CW.condF rfl ?_ | (refine hK _ _ ?_; clear hK K))
        exact K_of' (key2 w7 h7 c7) (rep7 rfl rfl rfl rfl rfl rfl rfl)
  clear hK
  by_cases ho : ones mb = mb.length
  · have hfn : firstNot mb = -1 := by unfold firstNot; rw [if_pos ho]
    rw [hfn] at hnb ⊢
    repeat (first | refine WL.nil ?_ | refine WL.auto (h := ?_) | refine WL.gskip rfl rfl rfl rfl ?_ | refine WL.gauto (h := ?_) | (refine CW.seq ?_; intro K hK) | refine CW.block ?_ | refine CW.region ?_ | refine CW.skip ?_ | refine CW.exit ?_ | refine CW.ret ?_ | (refine thn_ret (K := K) ?_; clear hK K) | refine thn_ret ?_ | refine blk_ret ?_ | (refine thn_exit (K := K) ?_; clear hK K) | refine thn_exit ?_ | refine blk_here ?_ | refine blk_past rfl ?_ | refine thn_norm ?_ | refine blk_norm ?_ | refine CW.condT rfl ?_ | refine CW.condF rfl ?_ | (refine hK _ _ ?_; clear hK K))
    refine WL.step0 ?_
    refine OpW.store (v := .int _ _) rfl rfl rfl hnb rfl (c' := #[_, _, _]) rfl ?_
    intro w5 hp5 hb5
    repeat (first | refine WL.nil ?_ | refine WL.auto (h := ?_) | refine WL.gskip rfl rfl rfl rfl ?_ | refine WL.gauto (h := ?_) | (refine CW.seq ?_; intro K hK) | refine CW.block ?_ | refine CW.region ?_ | refine CW.skip ?_ | refine CW.exit ?_ | refine CW.ret ?_ | (refine thn_ret (K := K) ?_; clear hK K) | refine thn_ret ?_ | refine blk_ret ?_ | (refine thn_exit (K := K) ?_; clear hK K) | refine thn_exit ?_ | refine blk_here ?_ | refine blk_past rfl ?_ | refine thn_norm ?_ | refine blk_norm ?_ | refine CW.condT rfl ?_ | refine CW.condF rfl ?_ | (refine hK _ _ ?_; clear hK K))
    refine K_of' (key w5 ?_ ?_) (rep7 rfl rfl rfl rfl rfl rfl rfl)
    · unfold IsNode; rw [ho]; exact hb5
    · exact n4.grow.chgNew hp5.chg fun i hi e => by subst e; have := n4.fresh; omega
  · have hfn : firstNot mb = (ones mb : Int) := by unfold firstNot; rw [if_neg ho]
    rw [hfn] at hnb ⊢
    rw [decide_eq_false (p := (ones mb : Int) < 0) (by omega)]
    repeat (first | refine WL.nil ?_ | refine WL.auto (h := ?_) | refine WL.gskip rfl rfl rfl rfl ?_ | refine WL.gauto (h := ?_) | (refine CW.seq ?_; intro K hK) | refine CW.block ?_ | refine CW.region ?_ | refine CW.skip ?_ | refine CW.exit ?_ | refine CW.ret ?_ | (refine thn_ret (K := K) ?_; clear hK K) | refine thn_ret ?_ | refine blk_ret ?_ | (refine thn_exit (K := K) ?_; clear hK K) | refine thn_exit ?_ | refine blk_here ?_ | refine blk_past rfl ?_ | refine thn_norm ?_ | refine blk_norm ?_ | refine CW.condT rfl ?_ | refine CW.condF rfl ?_ | (refine hK _ _ ?_; clear hK K))
    exact K_of' (key w4 hnb n4.grow) (rep7 rfl rfl rfl rfl rfl rfl rfl)
end B
end Go.Proofs.Ytlofcomnhecgfaa
/- Put of a node. Sizes are bounded. -/
namespace Go.Proofs.Ytlofcomnhecgfaa
namespace B
attribute [local irreducible] OpW WL CW Ret Sl Blk thn blk outOf
set_option linter.unusedVariables false
set_option linter.unusedSimpArgs false
set_option maxRecDepth 4000

theorem OpW.makeFuncL {P : Program} {e : Env} {w : World} {K : Value → World → Prop} {ty : TypeId} {fn : Fn} {cap : Array Operand} {us : List Value} (h2 : cap.toList.map (ev e) = us) (h : K (.func fn #[] us.toArray) w) : OpW P (.makeFunc fn #[] cap) ty e w K :=
  OpW.makeFunc (by simp) (by subst h2; cases cap; simp) h
theorem openNil (w : World) : Ret Try.prog 61 #[.pointer none] w fun v w' => v = .tuple #[.pointer none, .slice none 0 0, .int .i64 1] ∧ Grow w w' := by
  refine Ret.enter (fn := Try.f61) (N := 101) Try.func61 rfl Try.ntmps61 rfl ?_
  repeat (first | refine WL.nil ?_ | refine WL.auto (h := ?_) | refine WL.gskip rfl rfl rfl rfl ?_ | refine WL.gauto (h := ?_) | (refine CW.seq ?_; intro K hK) | refine CW.block ?_ | refine CW.region ?_ | refine CW.skip ?_ | refine CW.exit ?_ | refine CW.ret ?_ | (refine thn_ret (K := K) ?_; clear hK K) | refine thn_ret ?_ | refine blk_ret ?_ | (refine thn_exit (K := K) ?_; clear hK K) | refine thn_exit ?_ | refine blk_here ?_ | refine blk_past rfl ?_ | refine thn_norm ?_ | refine blk_norm ?_ | refine CW.condT rfl ?_ | refine CW.condF rfl ?_ | (refine hK _ _ ?_; clear hK K))
  exact out3 (v1 := .pointer none) (v2 := .slice none 0 0) (v3 := .int .i64 1) Try.results61 rfl rfl rfl ⟨rfl, Chg.refl _ _⟩ (Or.inr rfl)

section
variable {X : Nat → Prop} {w : World} {db nb bn br c : Nat} {s : Bool} {d : PD} {M : Nat} {r : List UInt8} {B : Option Addr} {rc : Nat}
theorem put92 (h : One X w db d) (hn : IsNode w nb db c s) (hbn : Blk w bn #[.pointer (some ⟨nb, 0, none⟩)] 82) (hbr : Blk w br #[.slice B r.length rc] 22) (x1 : X nb) (x2 : X bn) (x3 : X br) (hB : Sl w B (bvs r)) (hf : Fit d M) (hM : M ≤ 68719476736) (hr : r.length ≤ 1048576) :
    Ret Try.prog 92 #[.pointer (some ⟨bn, 0, none⟩), .pointer (some ⟨br, 0, none⟩)] w fun v w' => v = .int .i64 (d.append sLog (beN r.length ++ r)).1 ∧ One X w' db (d.append sLog (beN r.length ++ r)).2 ∧ Chg (fun k => ¬ X k) w w' := by
  have hnb : Blk w nb #[.pointer (some ⟨db, 0, none⟩), .int .i64 (c : Int), .bool s] 125 := hn
  have n1 : ¬ (fun k => ¬ X k) nb := fun h => h x1
  have n2 : ¬ (fun k => ¬ X k) bn := fun h => h x2
  have n3 : ¬ (fun k => ¬ X k) br := fun h => h x3
  refine Ret.enter (fn := Try.f92) (N := 15) Try.func92 rfl Try.ntmps92 rfl ?_
  repeat (first | refine WL.nil ?_ | refine WL.auto (h := ?_) | refine WL.gskip rfl rfl rfl rfl ?_ | refine WL.gauto (h := ?_) | (refine CW.seq ?_; intro K hK) | refine CW.block ?_ | refine CW.region ?_ | refine CW.skip ?_ | refine CW.exit ?_ | refine CW.ret ?_ | (refine thn_ret (K := K) ?_; clear hK K) | refine thn_ret ?_ | refine blk_ret ?_ | (refine thn_exit (K := K) ?_; clear hK K) | refine thn_exit ?_ | refine blk_here ?_ | refine blk_past rfl ?_ | refine thn_norm ?_ | refine blk_norm ?_ | refine CW.condT rfl ?_ | refine CW.condF rfl ?_ | (refine hK _ _ ?_; clear hK K))
  refine CW.held (fun k => ¬ X k) (.take 0 (.take 1 (.take 2 (.take 3 (.take 4 (.take 5 (.take 6 (.take 8 (.one 7 (.one 9 (.one 10 (.one 11 (.one 12 .nil))))))))))))) rfl (by kernel_rfl) (by kernel_rfl) (fun w1 g1 => ?_)
  repeat (first | refine AL.nil ?_ | refine AL.auto (hn := ?_) | refine AL.gskip rfl rfl rfl rfl rfl ?_ | refine AL.goneSkip rfl rfl rfl rfl rfl ?_ | refine AL.gauto (hn := ?_) | refine AL.oauto (hn := ?_))
  first | refine AL.one rfl rfl ?_ | refine AL.gone rfl rfl rfl rfl rfl ?_
  refine OpW.call ((N21 none 0 [] r.length w1 (Sl.nil _ _) (by simp)).mono ?_) rfl
  rintro v w2 ⟨A2, c2, rfl, o2, g2⟩
  have hp : putN [] r.length = beN r.length := rfl
  rw [hp] at o2 ⊢
  refine ⟨fun h => h.grow g2, ?_⟩
  repeat (first | refine AL.nil ?_ | refine AL.auto (hn := ?_) | refine AL.gskip rfl rfl rfl rfl rfl ?_ | refine AL.goneSkip rfl rfl rfl rfl rfl ?_ | refine AL.gauto (hn := ?_) | refine AL.oauto (hn := ?_))
  first | refine AL.one rfl rfl ?_ | refine AL.gone rfl rfl rfl rfl rfl ?_
  refine OpW.buildLit [.slice A2 (beN r.length).length c2, .slice B r.length rc] rfl rfl rfl (lit1 _ rfl) ?_
  intro b3 w3 n3'
  refine ⟨fun h => h.grow n3'.grow, ?_⟩
  repeat (first | refine AL.nil ?_ | refine AL.auto (hn := ?_) | refine AL.gskip rfl rfl rfl rfl rfl ?_ | refine AL.goneSkip rfl rfl rfl rfl rfl ?_ | refine AL.gauto (hn := ?_) | refine AL.oauto (hn := ?_))
  first | refine AL.one rfl rfl ?_ | refine AL.gone rfl rfl rfl rfl rfl ?_
  refine OpW.call ((concat_two o2.sl (hB.grow (g1.then g2)) n3' (by rw [beN_length]; omega)).mono ?_) rfl
  rintro v w4 ⟨A4, c4, rfl, o4, g4⟩
  refine ⟨fun h => h.grow g4, ?_⟩
  have gw4 := g1.then (g2.then (n3'.grow.then g4))
  have h4 := h.more gw4
  have hw3 : w.heap.size ≤ w3.heap.size := (g1.then (g2.then n3'.grow)).size
  repeat (first | refine AL.nil ?_ | refine AL.auto (hn := ?_) | refine AL.gskip rfl rfl rfl rfl rfl ?_ | refine AL.goneSkip rfl rfl rfl rfl rfl ?_ | refine AL.gauto (hn := ?_) | refine AL.oauto (hn := ?_))
  first | refine AL.one rfl rfl ?_ | refine AL.gone rfl rfl rfl rfl rfl ?_
  refine OpW.call ((appendOD h4 sLog (beN r.length ++ r) A4 c4 hf (by omega) (by decide) o4.sl (fun _ a ha => Or.inr ⟨Nat.le_trans hw3 (o4.in_ ha).1, (o4.in_ ha).2⟩) (by simp [beN_length]; omega)).mono ?_) rfl
  rintro v w5 ⟨rfl, h5, c5⟩
  have c5' : Chg (fun k => ¬ X k) w4 w5 := c5.mono fun k _ hk hx => hk (Or.inl hx)
  refine ⟨fun h => h.andThen c5', ?_⟩
  repeat (first | refine AL.nil ?_ | refine AL.auto (hn := ?_) | refine AL.gskip rfl rfl rfl rfl rfl ?_ | refine AL.goneSkip rfl rfl rfl rfl rfl ?_ | refine AL.gauto (hn := ?_) | refine AL.oauto (hn := ?_))
  repeat (first | refine WL.nil ?_ | refine WL.auto (h := ?_) | refine WL.gskip rfl rfl rfl rfl ?_ | refine WL.gauto (h := ?_) | (refine CW.seq ?_; intro K hK) | refine CW.block ?_ | refine CW.region ?_ | refine CW.skip ?_ | refine CW.exit ?_ | refine CW.ret ?_ | (refine thn_ret (K := K) ?_; clear hK K) | refine thn_ret ?_ | refine blk_ret ?_ | (refine thn_exit (K := K) ?_; clear hK K) | refine thn_exit ?_ | refine blk_here ?_ | refine blk_past rfl ?_ | refine thn_norm ?_ | refine blk_norm ?_ | refine CW.condT rfl ?_ | refine CW.condF rfl ?_ | (refine hK _ _ ?_; clear hK K))
  exact out1 Try.results92 rfl ⟨rfl, h5.less fun _ h => Or.inl h, Grow.chg gw4 c5'⟩ (Or.inr rfl)
theorem put93 (h : One X w db d) (hn : IsNode w nb db c s) (hbn : Blk w bn #[.pointer (some ⟨nb, 0, none⟩)] 82) (hf : Fit d M) :
    Ret Try.prog 93 #[.pointer (some ⟨bn, 0, none⟩)] w fun v w' => v = .int .i64 (d.sync sLog).1 ∧ One X w' db (d.sync sLog).2 ∧ Chg (fun k => ¬ X k) w w' := by
  have hnb : Blk w nb #[.pointer (some ⟨db, 0, none⟩), .int .i64 (c : Int), .bool s] 125 := hn
  refine Ret.enter (fn := Try.f93) (N := 7) Try.func93 rfl Try.ntmps93 rfl ?_
  repeat (first | refine WL.nil ?_ | refine WL.auto (h := ?_) | refine WL.gskip rfl rfl rfl rfl ?_ | refine WL.gauto (h := ?_) | (refine CW.seq ?_; intro K hK) | refine CW.block ?_ | refine CW.region ?_ | refine CW.skip ?_ | refine CW.exit ?_ | refine CW.ret ?_ | (refine thn_ret (K := K) ?_; clear hK K) | refine thn_ret ?_ | refine blk_ret ?_ | (refine thn_exit (K := K) ?_; clear hK K) | refine thn_exit ?_ | refine blk_here ?_ | refine blk_past rfl ?_ | refine thn_norm ?_ | refine blk_norm ?_ | refine CW.condT rfl ?_ | refine CW.condF rfl ?_ | (refine hK _ _ ?_; clear hK K))
  first | refine WL.step rfl ?_ | refine WL.gstep rfl rfl rfl rfl ?_
  refine OpW.call ((syncOD h sLog hf).mono ?_) rfl
  rintro v w2 ⟨rfl, h2, c2⟩
  repeat (first | refine WL.nil ?_ | refine WL.auto (h := ?_) | refine WL.gskip rfl rfl rfl rfl ?_ | refine WL.gauto (h := ?_) | (refine CW.seq ?_; intro K hK) | refine CW.block ?_ | refine CW.region ?_ | refine CW.skip ?_ | refine CW.exit ?_ | refine CW.ret ?_ | (refine thn_ret (K := K) ?_; clear hK K) | refine thn_ret ?_ | refine blk_ret ?_ | (refine thn_exit (K := K) ?_; clear hK K) | refine thn_exit ?_ | refine blk_here ?_ | refine blk_past rfl ?_ | refine thn_norm ?_ | refine blk_norm ?_ | refine CW.condT rfl ?_ | refine CW.condF rfl ?_ | (refine hK _ _ ?_; clear hK K))
  exact out1 Try.results93 rfl ⟨rfl, h2, c2⟩ (Or.inr rfl)
theorem put95 (h : One X w db d) (hn : IsNode w nb db c s) (hbn : Blk w bn #[.pointer (some ⟨nb, 0, none⟩)] 82) (hf : Fit d M) :
    Ret Try.prog 95 #[.pointer (some ⟨bn, 0, none⟩)] w fun v w' => v = .int .i64 (d.sync sMarks).1 ∧ One X w' db (d.sync sMarks).2 ∧ Chg (fun k => ¬ X k) w w' := by
  have hnb : Blk w nb #[.pointer (some ⟨db, 0, none⟩), .int .i64 (c : Int), .bool s] 125 := hn
  refine Ret.enter (fn := Try.f95) (N := 7) Try.func95 rfl Try.ntmps95 rfl ?_
  repeat (first | refine WL.nil ?_ | refine WL.auto (h := ?_) | refine WL.gskip rfl rfl rfl rfl ?_ | refine WL.gauto (h := ?_) | (refine CW.seq ?_; intro K hK) | refine CW.block ?_ | refine CW.region ?_ | refine CW.skip ?_ | refine CW.exit ?_ | refine CW.ret ?_ | (refine thn_ret (K := K) ?_; clear hK K) | refine thn_ret ?_ | refine blk_ret ?_ | (refine thn_exit (K := K) ?_; clear hK K) | refine thn_exit ?_ | refine blk_here ?_ | refine blk_past rfl ?_ | refine thn_norm ?_ | refine blk_norm ?_ | refine CW.condT rfl ?_ | refine CW.condF rfl ?_ | (refine hK _ _ ?_; clear hK K))
  first | refine WL.step rfl ?_ | refine WL.gstep rfl rfl rfl rfl ?_
  refine OpW.call ((syncOD h sMarks hf).mono ?_) rfl
  rintro v w2 ⟨rfl, h2, c2⟩
  repeat (first | refine WL.nil ?_ | refine WL.auto (h := ?_) | refine WL.gskip rfl rfl rfl rfl ?_ | refine WL.gauto (h := ?_) | (refine CW.seq ?_; intro K hK) | refine CW.block ?_ | refine CW.region ?_ | refine CW.skip ?_ | refine CW.exit ?_ | refine CW.ret ?_ | (refine thn_ret (K := K) ?_; clear hK K) | refine thn_ret ?_ | refine blk_ret ?_ | (refine thn_exit (K := K) ?_; clear hK K) | refine thn_exit ?_ | refine blk_here ?_ | refine blk_past rfl ?_ | refine thn_norm ?_ | refine blk_norm ?_ | refine CW.condT rfl ?_ | refine CW.condF rfl ?_ | (refine hK _ _ ?_; clear hK K))
  exact out1 Try.results95 rfl ⟨rfl, h2, c2⟩ (Or.inr rfl)
theorem put94 (h : One X w db d) (hn : IsNode w nb db c s) (hbn : Blk w bn #[.pointer (some ⟨nb, 0, none⟩)] 82) (hf : Fit d M) (hM : M ≤ 68719476736) :
    Ret Try.prog 94 #[.pointer (some ⟨bn, 0, none⟩)] w fun v w' => v = .int .i64 (d.append sMarks [1]).1 ∧ One X w' db (d.append sMarks [1]).2 ∧ Chg (fun k => ¬ X k) w w' := by
  have hnb : Blk w nb #[.pointer (some ⟨db, 0, none⟩), .int .i64 (c : Int), .bool s] 125 := hn
  refine Ret.enter (fn := Try.f94) (N := 8) Try.func94 rfl Try.ntmps94 rfl ?_
  repeat (first | refine WL.nil ?_ | refine WL.auto (h := ?_) | refine WL.gskip rfl rfl rfl rfl ?_ | refine WL.gauto (h := ?_) | (refine CW.seq ?_; intro K hK) | refine CW.block ?_ | refine CW.region ?_ | refine CW.skip ?_ | refine CW.exit ?_ | refine CW.ret ?_ | (refine thn_ret (K := K) ?_; clear hK K) | refine thn_ret ?_ | refine blk_ret ?_ | (refine thn_exit (K := K) ?_; clear hK K) | refine thn_exit ?_ | refine blk_here ?_ | refine blk_past rfl ?_ | refine thn_norm ?_ | refine blk_norm ?_ | refine CW.condT rfl ?_ | refine CW.condF rfl ?_ | (refine hK _ _ ?_; clear hK K))
  first | refine WL.step rfl ?_ | refine WL.gstep rfl rfl rfl rfl ?_
  refine OpW.buildLit [bv 1] rfl rfl rfl (lit1 _ rfl) ?_
  intro b1 w1 n1
  have h1 := h.more n1.grow
  repeat (first | refine WL.nil ?_ | refine WL.auto (h := ?_) | refine WL.gskip rfl rfl rfl rfl ?_ | refine WL.gauto (h := ?_) | (refine CW.seq ?_; intro K hK) | refine CW.block ?_ | refine CW.region ?_ | refine CW.skip ?_ | refine CW.exit ?_ | refine CW.ret ?_ | (refine thn_ret (K := K) ?_; clear hK K) | refine thn_ret ?_ | refine blk_ret ?_ | (refine thn_exit (K := K) ?_; clear hK K) | refine thn_exit ?_ | refine blk_here ?_ | refine blk_past rfl ?_ | refine thn_norm ?_ | refine blk_norm ?_ | refine CW.condT rfl ?_ | refine CW.condF rfl ?_ | (refine hK _ _ ?_; clear hK K))
  first | refine WL.step rfl ?_ | refine WL.gstep rfl rfl rfl rfl ?_
  refine OpW.call ((appendOD h1 sMarks [1] _ _ hf (by omega) (by decide) (blk_sl_lit (vs := [bv 1]) n1) (fun _ a ha => by cases ha; exact Or.inr ⟨n1.fresh, n1.blk.lt⟩) (by decide)).mono ?_) rfl
  rintro v w2 ⟨rfl, h2, c2⟩
  repeat (first | refine WL.nil ?_ | refine WL.auto (h := ?_) | refine WL.gskip rfl rfl rfl rfl ?_ | refine WL.gauto (h := ?_) | (refine CW.seq ?_; intro K hK) | refine CW.block ?_ | refine CW.region ?_ | refine CW.skip ?_ | refine CW.exit ?_ | refine CW.ret ?_ | (refine thn_ret (K := K) ?_; clear hK K) | refine thn_ret ?_ | refine blk_ret ?_ | (refine thn_exit (K := K) ?_; clear hK K) | refine thn_exit ?_ | refine blk_here ?_ | refine blk_past rfl ?_ | refine thn_norm ?_ | refine blk_norm ?_ | refine CW.condT rfl ?_ | refine CW.condF rfl ?_ | (refine hK _ _ ?_; clear hK K))
  exact out1 Try.results94 rfl ⟨rfl, h2.less fun _ h => Or.inl h, Grow.chg n1.grow (c2.mono fun k _ hk hx => hk (Or.inl hx))⟩ (Or.inr rfl)
end

def stepJ (r : List UInt8) (j : Nat) (d : PD) : Int × PD := if j = 0 then d.append sLog (beN r.length ++ r) else if j = 1 then d.sync sLog else if j = 2 then d.append sMarks [1] else d.sync sMarks
def goJ (r : List UInt8) : Nat → PD → Int × PD
  | 0, d => (0, d)
  | n + 1, d => if (stepJ r (3 - n) d).1 ≠ 0 then stepJ r (3 - n) d else goJ r n (stepJ r (3 - n) d).2
theorem nput_goJ (d : PD) (r : List UInt8) : d.nput r = goJ r 4 d := by
  have e0 : stepJ r (3 - 3) d = d.append sLog (beN r.length ++ r) := rfl
  have e1 : ∀ d, stepJ r (3 - 2) d = d.sync sLog := fun _ => rfl
  have e2 : ∀ d, stepJ r (3 - 1) d = d.append sMarks [1] := fun _ => rfl
  have e3 : ∀ d, stepJ r (3 - 0) d = d.sync sMarks := fun _ => rfl
  unfold PD.nput
  simp only [goJ, e0, e1, e2, e3]
  split
  · rfl
  · split
    · rfl
    · split
      · rfl
      · split
        · rfl
        · rename_i h
          simp only [ne_eq, Decidable.not_not] at h
          exact Prod.ext h rfl
theorem putNil (B : Value) (w : World) : Ret Try.prog 62 #[.pointer none, B] w fun v w' => v = .int .i64 1 ∧ Grow w w' := by
  refine Ret.enter (fn := Try.f62) (N := 44) Try.func62 rfl Try.ntmps62 rfl ?_
  repeat (first | refine WL.nil ?_ | refine WL.auto (h := ?_) | refine WL.gskip rfl rfl rfl rfl ?_ | refine WL.gauto (h := ?_) | (refine CW.seq ?_; intro K hK) | refine CW.block ?_ | refine CW.region ?_ | refine CW.skip ?_ | refine CW.exit ?_ | refine CW.ret ?_ | (refine thn_ret (K := K) ?_; clear hK K) | refine thn_ret ?_ | refine blk_ret ?_ | (refine thn_exit (K := K) ?_; clear hK K) | refine thn_exit ?_ | refine blk_here ?_ | refine blk_past rfl ?_ | refine thn_norm ?_ | refine blk_norm ?_ | refine CW.condT rfl ?_ | refine CW.condF rfl ?_ | (refine hK _ _ ?_; clear hK K))
  first | refine WL.step rfl ?_ | refine WL.gstep rfl rfl rfl rfl ?_
  refine OpW.box (v := .pointer none) rfl ?_
  intro b1 w1 n1
  have hb1 : Blk w1 b1 #[.pointer none] 82 := n1.blk
  repeat (first | refine WL.nil ?_ | refine WL.auto (h := ?_) | refine WL.gskip rfl rfl rfl rfl ?_ | refine WL.gauto (h := ?_) | (refine CW.seq ?_; intro K hK) | refine CW.block ?_ | refine CW.region ?_ | refine CW.skip ?_ | refine CW.exit ?_ | refine CW.ret ?_ | (refine thn_ret (K := K) ?_; clear hK K) | refine thn_ret ?_ | refine blk_ret ?_ | (refine thn_exit (K := K) ?_; clear hK K) | refine thn_exit ?_ | refine blk_here ?_ | refine blk_past rfl ?_ | refine thn_norm ?_ | refine blk_norm ?_ | refine CW.condT rfl ?_ | refine CW.condF rfl ?_ | (refine hK _ _ ?_; clear hK K))
  first | refine WL.step rfl ?_ | refine WL.gstep rfl rfl rfl rfl ?_
  refine OpW.box (v := B) rfl ?_
  intro b2 w2 n2
  replace hb1 := hb1.grow n2.grow
  repeat (first | refine WL.nil ?_ | refine WL.auto (h := ?_) | refine WL.gskip rfl rfl rfl rfl ?_ | refine WL.gauto (h := ?_) | (refine CW.seq ?_; intro K hK) | refine CW.block ?_ | refine CW.region ?_ | refine CW.skip ?_ | refine CW.exit ?_ | refine CW.ret ?_ | (refine thn_ret (K := K) ?_; clear hK K) | refine thn_ret ?_ | refine blk_ret ?_ | (refine thn_exit (K := K) ?_; clear hK K) | refine thn_exit ?_ | refine blk_here ?_ | refine blk_past rfl ?_ | refine thn_norm ?_ | refine blk_norm ?_ | refine CW.condT rfl ?_ | refine CW.condF rfl ?_ | (refine hK _ _ ?_; clear hK K))
  exact out1 (v := .int .i64 1) Try.results62 rfl ⟨rfl, n1.grow.then n2.grow⟩ (Or.inr rfl)
theorem put62 {X : Nat → Prop} {w : World} {db nb c : Nat} {s : Bool} {d : PD} {M : Nat} {r : List UInt8} {B : Option Addr} {rc : Nat} (h : One X w db d) (hn : IsNode w nb db c s) (x1 : X nb) (hB : Sl w B (bvs r)) (hBX : r ≠ [] → ∀ a, B = some a → X a.block) (hf : Fit d M) (hM : M ≤ 34359738368) (hr : r.length ≤ 1048576) (hc : c ≤ 1099511627776) :
    Ret Try.prog 62 #[.pointer (some ⟨nb, 0, none⟩), .slice B r.length rc] w fun v w' =>
      if s = true then v = .int .i64 52 ∧ Grow w w' else v = .int .i64 (d.nput r).1 ∧ One X w' db (d.nput r).2 ∧ IsNode w' nb db (if (d.nput r).1 = 0 then c + 1 else c) (decide ((d.nput r).1 ≠ 0)) ∧ Chg (fun k => ¬ X k ∨ k = nb) w w' := by
  have hnb : Blk w nb #[.pointer (some ⟨db, 0, none⟩), .int .i64 (c : Int), .bool s] 125 := hn
  refine Ret.enter (fn := Try.f62) (N := 44) Try.func62 rfl Try.ntmps62 rfl ?_
  repeat (first | refine WL.nil ?_ | refine WL.auto (h := ?_) | refine WL.gskip rfl rfl rfl rfl ?_ | refine WL.gauto (h := ?_) | (refine CW.seq ?_; intro K hK) | refine CW.block ?_ | refine CW.region ?_ | refine CW.skip ?_ | refine CW.exit ?_ | refine CW.ret ?_ | (refine thn_ret (K := K) ?_; clear hK K) | refine thn_ret ?_ | refine blk_ret ?_ | (refine thn_exit (K := K) ?_; clear hK K) | refine thn_exit ?_ | refine blk_here ?_ | refine blk_past rfl ?_ | refine thn_norm ?_ | refine blk_norm ?_ | refine CW.condT rfl ?_ | refine CW.condF rfl ?_ | (refine hK _ _ ?_; clear hK K))
  first | refine WL.step rfl ?_ | refine WL.gstep rfl rfl rfl rfl ?_
  refine OpW.box (v := .pointer (some ⟨nb, 0, none⟩)) rfl ?_
  intro b1 w1 n1
  have hb1 : Blk w1 b1 #[.pointer (some ⟨nb, 0, none⟩)] 82 := n1.blk
  replace hnb := hnb.grow n1.grow
  repeat (first | refine WL.nil ?_ | refine WL.auto (h := ?_) | refine WL.gskip rfl rfl rfl rfl ?_ | refine WL.gauto (h := ?_) | (refine CW.seq ?_; intro K hK) | refine CW.block ?_ | refine CW.region ?_ | refine CW.skip ?_ | refine CW.exit ?_ | refine CW.ret ?_ | (refine thn_ret (K := K) ?_; clear hK K) | refine thn_ret ?_ | refine blk_ret ?_ | (refine thn_exit (K := K) ?_; clear hK K) | refine thn_exit ?_ | refine blk_here ?_ | refine blk_past rfl ?_ | refine thn_norm ?_ | refine blk_norm ?_ | refine CW.condT rfl ?_ | refine CW.condF rfl ?_ | (refine hK _ _ ?_; clear hK K))
  first | refine WL.step rfl ?_ | refine WL.gstep rfl rfl rfl rfl ?_
  refine OpW.box (v := .slice B r.length rc) rfl ?_
  intro b2 w2 n2
  have hb2 : Blk w2 b2 #[.slice B r.length rc] 22 := n2.blk
  replace hnb := hnb.grow n2.grow
  replace hb1 := hb1.grow n2.grow
  have g2 := n1.grow.then n2.grow
  repeat (first | refine WL.nil ?_ | refine WL.auto (h := ?_) | refine WL.gskip rfl rfl rfl rfl ?_ | refine WL.gauto (h := ?_) | (refine CW.seq ?_; intro K hK) | refine CW.block ?_ | refine CW.region ?_ | refine CW.skip ?_ | refine CW.exit ?_ | refine CW.ret ?_ | (refine thn_ret (K := K) ?_; clear hK K) | refine thn_ret ?_ | refine blk_ret ?_ | (refine thn_exit (K := K) ?_; clear hK K) | refine thn_exit ?_ | refine blk_here ?_ | refine blk_past rfl ?_ | refine thn_norm ?_ | refine blk_norm ?_ | refine CW.condT rfl ?_ | refine CW.condF rfl ?_ | (refine hK _ _ ?_; clear hK K))
  cases s with
  | true =>
    repeat (first | refine WL.nil ?_ | refine WL.auto (h := ?_) | refine WL.gskip rfl rfl rfl rfl ?_ | refine WL.gauto (h := ?_) | (refine CW.seq ?_; intro K hK) | refine CW.block ?_ | refine CW.region ?_ | refine CW.skip ?_ | refine CW.exit ?_ | refine CW.ret ?_ | (refine thn_ret (K := K) ?_; clear hK K) | refine thn_ret ?_ | refine blk_ret ?_ | (refine thn_exit (K := K) ?_; clear hK K) | refine thn_exit ?_ | refine blk_here ?_ | refine blk_past rfl ?_ | refine thn_norm ?_ | refine blk_norm ?_ | refine CW.condT rfl ?_ | refine CW.condF rfl ?_ | (refine hK _ _ ?_; clear hK K))
    exact out1 (v := .int .i64 52) Try.results62 rfl (by rw [if_pos rfl]; exact ⟨rfl, g2⟩) (Or.inr rfl)
  | false =>
    simp only [Bool.false_eq_true, if_false]
    repeat (first | refine WL.nil ?_ | refine WL.auto (h := ?_) | refine WL.gskip rfl rfl rfl rfl ?_ | refine WL.gauto (h := ?_) | (refine CW.seq ?_; intro K hK) | refine CW.block ?_ | refine CW.region ?_ | refine CW.skip ?_ | refine CW.exit ?_ | refine CW.ret ?_ | (refine thn_ret (K := K) ?_; clear hK K) | refine thn_ret ?_ | refine blk_ret ?_ | (refine thn_exit (K := K) ?_; clear hK K) | refine thn_exit ?_ | refine blk_here ?_ | refine blk_past rfl ?_ | refine thn_norm ?_ | refine blk_norm ?_ | refine CW.condT rfl ?_ | refine CW.condF rfl ?_ | (refine hK _ _ ?_; clear hK K))
    first | refine WL.step rfl ?_ | refine WL.gstep rfl rfl rfl rfl ?_
    refine OpW.makeFuncL (us := [.pointer (some ⟨b1, 0, none⟩), .pointer (some ⟨b2, 0, none⟩)]) rfl ?_
    repeat (first | refine WL.nil ?_ | refine WL.auto (h := ?_) | refine WL.gskip rfl rfl rfl rfl ?_ | refine WL.gauto (h := ?_) | (refine CW.seq ?_; intro K hK) | refine CW.block ?_ | refine CW.region ?_ | refine CW.skip ?_ | refine CW.exit ?_ | refine CW.ret ?_ | (refine thn_ret (K := K) ?_; clear hK K) | refine thn_ret ?_ | refine blk_ret ?_ | (refine thn_exit (K := K) ?_; clear hK K) | refine thn_exit ?_ | refine blk_here ?_ | refine blk_past rfl ?_ | refine thn_norm ?_ | refine blk_norm ?_ | refine CW.condT rfl ?_ | refine CW.condF rfl ?_ | (refine hK _ _ ?_; clear hK K))
    first | refine WL.step rfl ?_ | refine WL.gstep rfl rfl rfl rfl ?_
    refine OpW.makeFuncL (us := [.pointer (some ⟨b1, 0, none⟩)]) rfl ?_
    repeat (first | refine WL.nil ?_ | refine WL.auto (h := ?_) | refine WL.gskip rfl rfl rfl rfl ?_ | refine WL.gauto (h := ?_) | (refine CW.seq ?_; intro K hK) | refine CW.block ?_ | refine CW.region ?_ | refine CW.skip ?_ | refine CW.exit ?_ | refine CW.ret ?_ | (refine thn_ret (K := K) ?_; clear hK K) | refine thn_ret ?_ | refine blk_ret ?_ | (refine thn_exit (K := K) ?_; clear hK K) | refine thn_exit ?_ | refine blk_here ?_ | refine blk_past rfl ?_ | refine thn_norm ?_ | refine blk_norm ?_ | refine CW.condT rfl ?_ | refine CW.condF rfl ?_ | (refine hK _ _ ?_; clear hK K))
    first | refine WL.step rfl ?_ | refine WL.gstep rfl rfl rfl rfl ?_
    refine OpW.makeFuncL (us := [.pointer (some ⟨b1, 0, none⟩)]) rfl ?_
    repeat (first | refine WL.nil ?_ | refine WL.auto (h := ?_) | refine WL.gskip rfl rfl rfl rfl ?_ | refine WL.gauto (h := ?_) | (refine CW.seq ?_; intro K hK) | refine CW.block ?_ | refine CW.region ?_ | refine CW.skip ?_ | refine CW.exit ?_ | refine CW.ret ?_ | (refine thn_ret (K := K) ?_; clear hK K) | refine thn_ret ?_ | refine blk_ret ?_ | (refine thn_exit (K := K) ?_; clear hK K) | refine thn_exit ?_ | refine blk_here ?_ | refine blk_past rfl ?_ | refine thn_norm ?_ | refine blk_norm ?_ | refine CW.condT rfl ?_ | refine CW.condF rfl ?_ | (refine hK _ _ ?_; clear hK K))
    first | refine WL.step rfl ?_ | refine WL.gstep rfl rfl rfl rfl ?_
    refine OpW.makeFuncL (us := [.pointer (some ⟨b1, 0, none⟩)]) rfl ?_
    repeat (first | refine WL.nil ?_ | refine WL.auto (h := ?_) | refine WL.gskip rfl rfl rfl rfl ?_ | refine WL.gauto (h := ?_) | (refine CW.seq ?_; intro K hK) | refine CW.block ?_ | refine CW.region ?_ | refine CW.skip ?_ | refine CW.exit ?_ | refine CW.ret ?_ | (refine thn_ret (K := K) ?_; clear hK K) | refine thn_ret ?_ | refine blk_ret ?_ | (refine thn_exit (K := K) ?_; clear hK K) | refine thn_exit ?_ | refine blk_here ?_ | refine blk_past rfl ?_ | refine thn_norm ?_ | refine blk_norm ?_ | refine CW.condT rfl ?_ | refine CW.condF rfl ?_ | (refine hK _ _ ?_; clear hK K))
    first | refine WL.step rfl ?_ | refine WL.gstep rfl rfl rfl rfl ?_
    refine OpW.buildLit [.func (.func 92) #[] #[.pointer (some ⟨b1, 0, none⟩), .pointer (some ⟨b2, 0, none⟩)], .func (.func 93) #[] #[.pointer (some ⟨b1, 0, none⟩)], .func (.func 94) #[] #[.pointer (some ⟨b1, 0, none⟩)], .func (.func 95) #[] #[.pointer (some ⟨b1, 0, none⟩)]] rfl rfl rfl (lit1 _ rfl) ?_
    intro b3 w3 n3
    have gw3 := g2.then n3.grow
    have h3 := h.more gw3
    obtain ⟨X1, hX1⟩ : ∃ X1, X1 = (fun k => X k ∨ w.heap.size ≤ k ∧ k < w3.heap.size) := ⟨_, rfl⟩
    rw [← hX1] at h3
    have hXX : ∀ k, X k → X1 k := fun k hk => by rw [hX1]; exact Or.inl hk
    have f1 := n1.fresh
    have f2 := n2.fresh
    have f3 := n3.fresh
    have l1 := hb1.lt
    have l2 := hb2.lt
    have z1 := n1.grow.size
    have z2 := n2.grow.size
    have z3 := n3.grow.size
    have y1 : X1 b1 := by rw [hX1]; exact Or.inr ⟨f1, by omega⟩
    have y2 : X1 b2 := by rw [hX1]; exact Or.inr ⟨by omega, by omega⟩
    have y3 : X1 b3 := by rw [hX1]; exact Or.inr ⟨by omega, n3.blk.lt⟩
    have yn : X1 nb := hXX nb x1
    have hcells : Blk w3 b3 #[.func (.func 92) #[] #[.pointer (some ⟨b1, 0, none⟩), .pointer (some ⟨b2, 0, none⟩)], .func (.func 93) #[] #[.pointer (some ⟨b1, 0, none⟩)], .func (.func 94) #[] #[.pointer (some ⟨b1, 0, none⟩)], .func (.func 95) #[] #[.pointer (some ⟨b1, 0, none⟩)]] 64 := n3.blk
    replace hb1 := hb1.grow n3.grow
    replace hb2 := hb2.grow n3.grow
    replace hnb := hnb.grow n3.grow
    have back : ∀ {w' : World} {d' : PD}, One X1 w' db d' → Chg (fun k => ¬ X1 k ∨ k = nb) w3 w' → One X w' db d' ∧ Chg (fun k => ¬ X k ∨ k = nb) w w' := fun h' c' =>
      ⟨h'.less hXX, Grow.chg gw3 (c'.mono fun k _ hk => hk.imp (fun h hx => h (hXX k hx)) id)⟩
    have hgo := nput_goJ d r
    clear hX1
    repeat (first | refine WL.nil ?_ | refine WL.auto (h := ?_) | refine WL.gskip rfl rfl rfl rfl ?_ | refine WL.gauto (h := ?_) | (refine CW.seq ?_; intro K hK) | refine CW.block ?_ | refine CW.region ?_ | refine CW.skip ?_ | refine CW.exit ?_ | refine CW.ret ?_ | (refine thn_ret (K := K) ?_; clear hK K) | refine thn_ret ?_ | refine blk_ret ?_ | (refine thn_exit (K := K) ?_; clear hK K) | refine thn_exit ?_ | refine blk_here ?_ | refine blk_past rfl ?_ | refine thn_norm ?_ | refine blk_norm ?_ | refine CW.condT rfl ?_ | refine CW.condF rfl ?_ | (refine hK _ _ ?_; clear hK K))
    refine CW.loop (fun n' e w4 => ∃ (j : Nat) (d' : PD), j ≤ 4 ∧ n' = 4 - j ∧ d.nput r = goJ r (4 - j) d' ∧ Fit d' (M + (if 0 < j then r.length + 8 else 0) + (if 2 < j then 1 else 0)) ∧ One X1 w4 db d' ∧ Chg (fun k => ¬ X1 k) w3 w4 ∧
      ∃ e0, e = upd (upd (upd (upd e0 2 (.pointer (some ⟨b1, 0, none⟩))) 22 (.slice (some ⟨b3, 0, none⟩) 4 4)) 23 (.int .i64 4)) 24 (.int .i64 j)) 4 ?_ ?_
    · exact ⟨0, d, by omega, rfl, hgo, by simpa using hf, h3, Chg.refl _ _, rep4 rfl rfl rfl rfl⟩
    rintro n' e w4 ⟨j, d', hj, rfl, hgo4, hf4, h4, c4, e0, rfl⟩ KJ hJ
    have b1' := hb1.keep c4 fun hn => hn y1
    have b2' := hb2.keep c4 fun hn => hn y2
    have b3' := hcells.keep c4 fun hn => hn y3
    have bn' := hnb.keep c4 fun hn => hn yn
    have hin : IsNode w4 nb db c false := bn'
    have hsl : Sl w4 (some ⟨b3, 0, none⟩) [.func (.func 92) #[] #[.pointer (some ⟨b1, 0, none⟩), .pointer (some ⟨b2, 0, none⟩)], .func (.func 93) #[] #[.pointer (some ⟨b1, 0, none⟩)], .func (.func 94) #[] #[.pointer (some ⟨b1, 0, none⟩)], .func (.func 95) #[] #[.pointer (some ⟨b1, 0, none⟩)]] := Blk.slAll b3' _ rfl
    have hB4 : Sl w4 B (bvs r) := (hB.grow gw3).keepN c4 fun hne a ha hn => hn (hXX _ (hBX (bvs_ne hne) a ha))
    -- what follows a step: an error, or the next one
    have next : ∀ (w5 : World) (e5 : Int) (d5 : PD) (M5 : Nat), j < 4 → stepJ r j d' = (e5, d5) → Fit d5 (M + (if 0 < j + 1 then r.length + 8 else 0) + (if 2 < j + 1 then 1 else 0)) → One X1 w5 db d5 → Chg (fun k => ¬ X1 k) w4 w5 → True := fun _ _ _ _ _ _ _ _ _ => trivial
    clear next
    repeat (first | refine WL.nil ?_ | refine WL.auto (h := ?_) | refine WL.gskip rfl rfl rfl rfl ?_ | refine WL.gauto (h := ?_) | (refine CW.seq ?_; intro K hK) | refine CW.block ?_ | refine CW.region ?_ | refine CW.skip ?_ | refine CW.exit ?_ | refine CW.ret ?_ | (refine thn_ret (K := K) ?_; clear hK K) | refine thn_ret ?_ | refine blk_ret ?_ | (refine thn_exit (K := K) ?_; clear hK K) | refine thn_exit ?_ | refine blk_here ?_ | refine blk_past rfl ?_ | refine thn_norm ?_ | refine blk_norm ?_ | refine CW.condT rfl ?_ | refine CW.condF rfl ?_ | (refine hK _ _ ?_; clear hK K))
    refine CW.condP rfl (fun h5 => ?_) (fun h5 => ?_)
    · have hjl : j < 4 := by omega
      have hg1 : goJ r (4 - j) d' = if (stepJ r j d').1 ≠ 0 then stepJ r j d' else goJ r (4 - (j + 1)) (stepJ r j d').2 := by
        rw [show 4 - j = (4 - (j + 1)) + 1 from by omega, goJ, show 3 - (4 - (j + 1)) = j from by omega]
      rw [hg1] at hgo4
      repeat (first | refine WL.nil ?_ | refine WL.auto (h := ?_) | refine WL.gskip rfl rfl rfl rfl ?_ | refine WL.gauto (h := ?_) | (refine CW.seq ?_; intro K hK) | refine CW.block ?_ | refine CW.region ?_ | refine CW.skip ?_ | refine CW.exit ?_ | refine CW.ret ?_ | (refine thn_ret (K := K) ?_; clear hK K) | refine thn_ret ?_ | refine blk_ret ?_ | (refine thn_exit (K := K) ?_; clear hK K) | refine thn_exit ?_ | refine blk_here ?_ | refine blk_past rfl ?_ | refine thn_norm ?_ | refine blk_norm ?_ | refine CW.condT rfl ?_ | refine CW.condF rfl ?_ | (refine hK _ _ ?_; clear hK K))
      first | refine WL.step rfl ?_ | refine WL.gstep rfl rfl rfl rfl ?_
      refine OpW.indexAddr j rfl rfl rfl hjl (by simp) (by intro a ha; cases ha; rfl) ?_
      obtain rfl | rfl | rfl | rfl : j = 0 ∨ j = 1 ∨ j = 2 ∨ j = 3 := by omega
      · have e1 : stepJ r 0 d' = d'.append sLog (beN r.length ++ r) := rfl
        rw [e1] at hgo4
        simp only [Nat.lt_irrefl, if_false, Nat.add_zero, show ¬ 2 < 0 from by omega] at hf4
        have hf5 := hf4.append sLog (beN r.length ++ r)
        have hl5 : (beN r.length ++ r).length = r.length + 8 := by simp [beN_length]; omega
        rw [hl5] at hf5
        repeat (first | refine WL.nil ?_ | refine WL.auto (h := ?_) | refine WL.gskip rfl rfl rfl rfl ?_ | refine WL.gauto (h := ?_) | (refine CW.seq ?_; intro K hK) | refine CW.block ?_ | refine CW.region ?_ | refine CW.skip ?_ | refine CW.exit ?_ | refine CW.ret ?_ | (refine thn_ret (K := K) ?_; clear hK K) | refine thn_ret ?_ | refine blk_ret ?_ | (refine thn_exit (K := K) ?_; clear hK K) | refine thn_exit ?_ | refine blk_here ?_ | refine blk_past rfl ?_ | refine thn_norm ?_ | refine blk_norm ?_ | refine CW.condT rfl ?_ | refine CW.condF rfl ?_ | (refine hK _ _ ?_; clear hK K))
        first | refine WL.step rfl ?_ | refine WL.gstep rfl rfl rfl rfl ?_
        refine OpW.callFn (vs := [.pointer (some ⟨b1, 0, none⟩), .pointer (some ⟨b2, 0, none⟩)]) rfl ((put92 h4 hin b1' b2' yn y1 y2 hB4 hf4 (by omega) hr).mono ?_) rfl
        rintro v w5 ⟨rfl, h6, c6⟩
        generalize d'.append sLog (beN r.length ++ r) = q at *
        obtain ⟨e5, d5⟩ := q
        simp only at h6 hgo4 hf5
        (
  have b1'' := b1'.keep c6 fun hn => hn y1
  have bn'' := bn'.keep c6 fun hn => hn yn
  repeat (first | refine WL.nil ?_ | refine WL.auto (h := ?_) | refine WL.gskip rfl rfl rfl rfl ?_ | refine WL.gauto (h := ?_) | (refine CW.seq ?_; intro K hK) | refine CW.block ?_ | refine CW.region ?_ | refine CW.skip ?_ | refine CW.exit ?_ | refine CW.ret ?_ | (refine thn_ret (K := K) ?_; clear hK K) | refine thn_ret ?_ | refine blk_ret ?_ | (refine thn_exit (K := K) ?_; clear hK K) | refine thn_exit ?_ | refine blk_here ?_ | refine blk_past rfl ?_ | refine thn_norm ?_ | refine blk_norm ?_ | refine CW.condT rfl ?_ | refine CW.condF rfl ?_ | (refine hK _ _ ?_; clear hK K))
  refine CW.condP rfl (fun he => ?_) (fun he => ?_)
  · rw [if_pos he] at hgo4
    repeat (first | refine WL.nil ?_ | refine WL.auto (h := ?_) | refine WL.gskip rfl rfl rfl rfl ?_ | refine WL.gauto (h := ?_) | (refine CW.seq ?_; intro K hK) | refine CW.block ?_ | refine CW.region ?_ | refine CW.skip ?_ | refine CW.exit ?_ | refine CW.ret ?_ | (refine thn_ret (K := K) ?_; clear hK K) | refine thn_ret ?_ | refine blk_ret ?_ | (refine thn_exit (K := K) ?_; clear hK K) | refine thn_exit ?_ | refine blk_here ?_ | refine blk_past rfl ?_ | refine thn_norm ?_ | refine blk_norm ?_ | refine CW.condT rfl ?_ | refine CW.condF rfl ?_ | (refine hK _ _ ?_; clear hK K))
    refine WL.step0 ?_
    refine OpW.store (v := .bool _) rfl rfl rfl bn'' rfl (c' := #[_, _, _]) rfl ?_
    intro w7 hp7 hb7
    repeat (first | refine WL.nil ?_ | refine WL.auto (h := ?_) | refine WL.gskip rfl rfl rfl rfl ?_ | refine WL.gauto (h := ?_) | (refine CW.seq ?_; intro K hK) | refine CW.block ?_ | refine CW.region ?_ | refine CW.skip ?_ | refine CW.exit ?_ | refine CW.ret ?_ | (refine thn_ret (K := K) ?_; clear hK K) | refine thn_ret ?_ | refine blk_ret ?_ | (refine thn_exit (K := K) ?_; clear hK K) | refine thn_exit ?_ | refine blk_here ?_ | refine blk_past rfl ?_ | refine thn_norm ?_ | refine blk_norm ?_ | refine CW.condT rfl ?_ | refine CW.condF rfl ?_ | (refine hK _ _ ?_; clear hK K))
    refine out1 (v := .int .i64 e5) Try.results62 rfl ?_ (Or.inr rfl)
    rw [if_neg (by simp), hgo4]
    obtain ⟨q1, q2⟩ := back (h6.keep (hp7.chg.mono fun k _ hk => by rw [hk]; exact yn)) (((c4.andThen c6).mono fun k _ hk => Or.inl hk).andThen (hp7.chg.mono fun k _ hk => Or.inr hk))
    refine ⟨rfl, q1, ?_, q2⟩
    simp only [he, if_false, decide_true, ne_eq, not_false_eq_true]
    exact hb7
  · rw [if_neg he] at hgo4
    repeat (first | refine WL.nil ?_ | refine WL.auto (h := ?_) | refine WL.gskip rfl rfl rfl rfl ?_ | refine WL.gauto (h := ?_) | (refine CW.seq ?_; intro K hK) | refine CW.block ?_ | refine CW.region ?_ | refine CW.skip ?_ | refine CW.exit ?_ | refine CW.ret ?_ | (refine thn_ret (K := K) ?_; clear hK K) | refine thn_ret ?_ | refine blk_ret ?_ | (refine thn_exit (K := K) ?_; clear hK K) | refine thn_exit ?_ | refine blk_here ?_ | refine blk_past rfl ?_ | refine thn_norm ?_ | refine blk_norm ?_ | refine CW.condT rfl ?_ | refine CW.condF rfl ?_ | (refine hK _ _ ?_; clear hK K))
    exact hJ _ _ _ (by omega) ⟨_, d5, by omega, rfl, hgo4, by simpa [Nat.add_assoc] using hf5, h6, c4.andThen c6, rep4 rfl rfl rfl rfl⟩)
      · have e1 : stepJ r 1 d' = d'.sync sLog := rfl
        rw [e1] at hgo4
        simp only [show 0 < 1 from by omega, if_true, show ¬ 2 < 1 from by omega, if_false, Nat.add_zero] at hf4
        have hf5 := hf4.sync sLog
        repeat (first | refine WL.nil ?_ | refine WL.auto (h := ?_) | refine WL.gskip rfl rfl rfl rfl ?_ | refine WL.gauto (h := ?_) | (refine CW.seq ?_; intro K hK) | refine CW.block ?_ | refine CW.region ?_ | refine CW.skip ?_ | refine CW.exit ?_ | refine CW.ret ?_ | (refine thn_ret (K := K) ?_; clear hK K) | refine thn_ret ?_ | refine blk_ret ?_ | (refine thn_exit (K := K) ?_; clear hK K) | refine thn_exit ?_ | refine blk_here ?_ | refine blk_past rfl ?_ | refine thn_norm ?_ | refine blk_norm ?_ | refine CW.condT rfl ?_ | refine CW.condF rfl ?_ | (refine hK _ _ ?_; clear hK K))
        first | refine WL.step rfl ?_ | refine WL.gstep rfl rfl rfl rfl ?_
        refine OpW.callFn (vs := [.pointer (some ⟨b1, 0, none⟩)]) rfl ((put93 h4 hin b1' hf4).mono ?_) rfl
        rintro v w5 ⟨rfl, h6, c6⟩
        generalize d'.sync sLog = q at *
        obtain ⟨e5, d5⟩ := q
        simp only at h6 hgo4 hf5
        (
  have b1'' := b1'.keep c6 fun hn => hn y1
  have bn'' := bn'.keep c6 fun hn => hn yn
  repeat (first | refine WL.nil ?_ | refine WL.auto (h := ?_) | refine WL.gskip rfl rfl rfl rfl ?_ | refine WL.gauto (h := ?_) | (refine CW.seq ?_; intro K hK) | refine CW.block ?_ | refine CW.region ?_ | refine CW.skip ?_ | refine CW.exit ?_ | refine CW.ret ?_ | (refine thn_ret (K := K) ?_; clear hK K) | refine thn_ret ?_ | refine blk_ret ?_ | (refine thn_exit (K := K) ?_; clear hK K) | refine thn_exit ?_ | refine blk_here ?_ | refine blk_past rfl ?_ | refine thn_norm ?_ | refine blk_norm ?_ | refine CW.condT rfl ?_ | refine CW.condF rfl ?_ | (refine hK _ _ ?_; clear hK K))
  refine CW.condP rfl (fun he => ?_) (fun he => ?_)
  · rw [if_pos he] at hgo4
    repeat (first | refine WL.nil ?_ | refine WL.auto (h := ?_) | refine WL.gskip rfl rfl rfl rfl ?_ | refine WL.gauto (h := ?_) | (refine CW.seq ?_; intro K hK) | refine CW.block ?_ | refine CW.region ?_ | refine CW.skip ?_ | refine CW.exit ?_ | refine CW.ret ?_ | (refine thn_ret (K := K) ?_; clear hK K) | refine thn_ret ?_ | refine blk_ret ?_ | (refine thn_exit (K := K) ?_; clear hK K) | refine thn_exit ?_ | refine blk_here ?_ | refine blk_past rfl ?_ | refine thn_norm ?_ | refine blk_norm ?_ | refine CW.condT rfl ?_ | refine CW.condF rfl ?_ | (refine hK _ _ ?_; clear hK K))
    refine WL.step0 ?_
    refine OpW.store (v := .bool _) rfl rfl rfl bn'' rfl (c' := #[_, _, _]) rfl ?_
    intro w7 hp7 hb7
    repeat (first | refine WL.nil ?_ | refine WL.auto (h := ?_) | refine WL.gskip rfl rfl rfl rfl ?_ | refine WL.gauto (h := ?_) | (refine CW.seq ?_; intro K hK) | refine CW.block ?_ | refine CW.region ?_ | refine CW.skip ?_ | refine CW.exit ?_ | refine CW.ret ?_ | (refine thn_ret (K := K) ?_; clear hK K) | refine thn_ret ?_ | refine blk_ret ?_ | (refine thn_exit (K := K) ?_; clear hK K) | refine thn_exit ?_ | refine blk_here ?_ | refine blk_past rfl ?_ | refine thn_norm ?_ | refine blk_norm ?_ | refine CW.condT rfl ?_ | refine CW.condF rfl ?_ | (refine hK _ _ ?_; clear hK K))
    refine out1 (v := .int .i64 e5) Try.results62 rfl ?_ (Or.inr rfl)
    rw [if_neg (by simp), hgo4]
    obtain ⟨q1, q2⟩ := back (h6.keep (hp7.chg.mono fun k _ hk => by rw [hk]; exact yn)) (((c4.andThen c6).mono fun k _ hk => Or.inl hk).andThen (hp7.chg.mono fun k _ hk => Or.inr hk))
    refine ⟨rfl, q1, ?_, q2⟩
    simp only [he, if_false, decide_true, ne_eq, not_false_eq_true]
    exact hb7
  · rw [if_neg he] at hgo4
    repeat (first | refine WL.nil ?_ | refine WL.auto (h := ?_) | refine WL.gskip rfl rfl rfl rfl ?_ | refine WL.gauto (h := ?_) | (refine CW.seq ?_; intro K hK) | refine CW.block ?_ | refine CW.region ?_ | refine CW.skip ?_ | refine CW.exit ?_ | refine CW.ret ?_ | (refine thn_ret (K := K) ?_; clear hK K) | refine thn_ret ?_ | refine blk_ret ?_ | (refine thn_exit (K := K) ?_; clear hK K) | refine thn_exit ?_ | refine blk_here ?_ | refine blk_past rfl ?_ | refine thn_norm ?_ | refine blk_norm ?_ | refine CW.condT rfl ?_ | refine CW.condF rfl ?_ | (refine hK _ _ ?_; clear hK K))
    exact hJ _ _ _ (by omega) ⟨_, d5, by omega, rfl, hgo4, by simpa [Nat.add_assoc] using hf5, h6, c4.andThen c6, rep4 rfl rfl rfl rfl⟩)
      · have e1 : stepJ r 2 d' = d'.append sMarks [1] := rfl
        rw [e1] at hgo4
        simp only [show 0 < 2 from by omega, if_true, Nat.lt_irrefl, if_false, Nat.add_zero] at hf4
        have hf5 := hf4.append sMarks [1]
        repeat (first | refine WL.nil ?_ | refine WL.auto (h := ?_) | refine WL.gskip rfl rfl rfl rfl ?_ | refine WL.gauto (h := ?_) | (refine CW.seq ?_; intro K hK) | refine CW.block ?_ | refine CW.region ?_ | refine CW.skip ?_ | refine CW.exit ?_ | refine CW.ret ?_ | (refine thn_ret (K := K) ?_; clear hK K) | refine thn_ret ?_ | refine blk_ret ?_ | (refine thn_exit (K := K) ?_; clear hK K) | refine thn_exit ?_ | refine blk_here ?_ | refine blk_past rfl ?_ | refine thn_norm ?_ | refine blk_norm ?_ | refine CW.condT rfl ?_ | refine CW.condF rfl ?_ | (refine hK _ _ ?_; clear hK K))
        first | refine WL.step rfl ?_ | refine WL.gstep rfl rfl rfl rfl ?_
        refine OpW.callFn (vs := [.pointer (some ⟨b1, 0, none⟩)]) rfl ((put94 h4 hin b1' hf4 (by omega)).mono ?_) rfl
        rintro v w5 ⟨rfl, h6, c6⟩
        generalize d'.append sMarks [1] = q at *
        obtain ⟨e5, d5⟩ := q
        simp only at h6 hgo4 hf5
        (
  have b1'' := b1'.keep c6 fun hn => hn y1
  have bn'' := bn'.keep c6 fun hn => hn yn
  repeat (first | refine WL.nil ?_ | refine WL.auto (h := ?_) | refine WL.gskip rfl rfl rfl rfl ?_ | refine WL.gauto (h := ?_) | (refine CW.seq ?_; intro K hK) | refine CW.block ?_ | refine CW.region ?_ | refine CW.skip ?_ | refine CW.exit ?_ | refine CW.ret ?_ | (refine thn_ret (K := K) ?_; clear hK K) | refine thn_ret ?_ | refine blk_ret ?_ | (refine thn_exit (K := K) ?_; clear hK K) | refine thn_exit ?_ | refine blk_here ?_ | refine blk_past rfl ?_ | refine thn_norm ?_ | refine blk_norm ?_ | refine CW.condT rfl ?_ | refine CW.condF rfl ?_ | (refine hK _ _ ?_; clear hK K))
  refine CW.condP rfl (fun he => ?_) (fun he => ?_)
  · rw [if_pos he] at hgo4
    repeat (first | refine WL.nil ?_ | refine WL.auto (h := ?_) | refine WL.gskip rfl rfl rfl rfl ?_ | refine WL.gauto (h := ?_) | (refine CW.seq ?_; intro K hK) | refine CW.block ?_ | refine CW.region ?_ | refine CW.skip ?_ | refine CW.exit ?_ | refine CW.ret ?_ | (refine thn_ret (K := K) ?_; clear hK K) | refine thn_ret ?_ | refine blk_ret ?_ | (refine thn_exit (K := K) ?_; clear hK K) | refine thn_exit ?_ | refine blk_here ?_ | refine blk_past rfl ?_ | refine thn_norm ?_ | refine blk_norm ?_ | refine CW.condT rfl ?_ | refine CW.condF rfl ?_ | (refine hK _ _ ?_; clear hK K))
    refine WL.step0 ?_
    refine OpW.store (v := .bool _) rfl rfl rfl bn'' rfl (c' := #[_, _, _]) rfl ?_
    intro w7 hp7 hb7
    repeat (first | refine WL.nil ?_ | refine WL.auto (h := ?_) | refine WL.gskip rfl rfl rfl rfl ?_ | refine WL.gauto (h := ?_) | (refine CW.seq ?_; intro K hK) | refine CW.block ?_ | refine CW.region ?_ | refine CW.skip ?_ | refine CW.exit ?_ | refine CW.ret ?_ | (refine thn_ret (K := K) ?_; clear hK K) | refine thn_ret ?_ | refine blk_ret ?_ | (refine thn_exit (K := K) ?_; clear hK K) | refine thn_exit ?_ | refine blk_here ?_ | refine blk_past rfl ?_ | refine thn_norm ?_ | refine blk_norm ?_ | refine CW.condT rfl ?_ | refine CW.condF rfl ?_ | (refine hK _ _ ?_; clear hK K))
    refine out1 (v := .int .i64 e5) Try.results62 rfl ?_ (Or.inr rfl)
    rw [if_neg (by simp), hgo4]
    obtain ⟨q1, q2⟩ := back (h6.keep (hp7.chg.mono fun k _ hk => by rw [hk]; exact yn)) (((c4.andThen c6).mono fun k _ hk => Or.inl hk).andThen (hp7.chg.mono fun k _ hk => Or.inr hk))
    refine ⟨rfl, q1, ?_, q2⟩
    simp only [he, if_false, decide_true, ne_eq, not_false_eq_true]
    exact hb7
  · rw [if_neg he] at hgo4
    repeat (first | refine WL.nil ?_ | refine WL.auto (h := ?_) | refine WL.gskip rfl rfl rfl rfl ?_ | refine WL.gauto (h := ?_) | (refine CW.seq ?_; intro K hK) | refine CW.block ?_ | refine CW.region ?_ | refine CW.skip ?_ | refine CW.exit ?_ | refine CW.ret ?_ | (refine thn_ret (K := K) ?_; clear hK K) | refine thn_ret ?_ | refine blk_ret ?_ | (refine thn_exit (K := K) ?_; clear hK K) | refine thn_exit ?_ | refine blk_here ?_ | refine blk_past rfl ?_ | refine thn_norm ?_ | refine blk_norm ?_ | refine CW.condT rfl ?_ | refine CW.condF rfl ?_ | (refine hK _ _ ?_; clear hK K))
    exact hJ _ _ _ (by omega) ⟨_, d5, by omega, rfl, hgo4, by simpa [Nat.add_assoc] using hf5, h6, c4.andThen c6, rep4 rfl rfl rfl rfl⟩)
      · have e1 : stepJ r 3 d' = d'.sync sMarks := rfl
        rw [e1] at hgo4
        simp only [show 0 < 3 from by omega, if_true, show 2 < 3 from by omega] at hf4
        have hf5 := hf4.sync sMarks
        repeat (first | refine WL.nil ?_ | refine WL.auto (h := ?_) | refine WL.gskip rfl rfl rfl rfl ?_ | refine WL.gauto (h := ?_) | (refine CW.seq ?_; intro K hK) | refine CW.block ?_ | refine CW.region ?_ | refine CW.skip ?_ | refine CW.exit ?_ | refine CW.ret ?_ | (refine thn_ret (K := K) ?_; clear hK K) | refine thn_ret ?_ | refine blk_ret ?_ | (refine thn_exit (K := K) ?_; clear hK K) | refine thn_exit ?_ | refine blk_here ?_ | refine blk_past rfl ?_ | refine thn_norm ?_ | refine blk_norm ?_ | refine CW.condT rfl ?_ | refine CW.condF rfl ?_ | (refine hK _ _ ?_; clear hK K))
        first | refine WL.step rfl ?_ | refine WL.gstep rfl rfl rfl rfl ?_
        refine OpW.callFn (vs := [.pointer (some ⟨b1, 0, none⟩)]) rfl ((put95 h4 hin b1' hf4).mono ?_) rfl
        rintro v w5 ⟨rfl, h6, c6⟩
        generalize d'.sync sMarks = q at *
        obtain ⟨e5, d5⟩ := q
        simp only at h6 hgo4 hf5
        (
  have b1'' := b1'.keep c6 fun hn => hn y1
  have bn'' := bn'.keep c6 fun hn => hn yn
  repeat (first | refine WL.nil ?_ | refine WL.auto (h := ?_) | refine WL.gskip rfl rfl rfl rfl ?_ | refine WL.gauto (h := ?_) | (refine CW.seq ?_; intro K hK) | refine CW.block ?_ | refine CW.region ?_ | refine CW.skip ?_ | refine CW.exit ?_ | refine CW.ret ?_ | (refine thn_ret (K := K) ?_; clear hK K) | refine thn_ret ?_ | refine blk_ret ?_ | (refine thn_exit (K := K) ?_; clear hK K) | refine thn_exit ?_ | refine blk_here ?_ | refine blk_past rfl ?_ | refine thn_norm ?_ | refine blk_norm ?_ | refine CW.condT rfl ?_ | refine CW.condF rfl ?_ | (refine hK _ _ ?_; clear hK K))
  refine CW.condP rfl (fun he => ?_) (fun he => ?_)
  · rw [if_pos he] at hgo4
    repeat (first | refine WL.nil ?_ | refine WL.auto (h := ?_) | refine WL.gskip rfl rfl rfl rfl ?_ | refine WL.gauto (h := ?_) | (refine CW.seq ?_; intro K hK) | refine CW.block ?_ | refine CW.region ?_ | refine CW.skip ?_ | refine CW.exit ?_ | refine CW.ret ?_ | (refine thn_ret (K := K) ?_; clear hK K) | refine thn_ret ?_ | refine blk_ret ?_ | (refine thn_exit (K := K) ?_; clear hK K) | refine thn_exit ?_ | refine blk_here ?_ | refine blk_past rfl ?_ | refine thn_norm ?_ | refine blk_norm ?_ | refine CW.condT rfl ?_ | refine CW.condF rfl ?_ | (refine hK _ _ ?_; clear hK K))
    refine WL.step0 ?_
    refine OpW.store (v := .bool _) rfl rfl rfl bn'' rfl (c' := #[_, _, _]) rfl ?_
    intro w7 hp7 hb7
    repeat (first | refine WL.nil ?_ | refine WL.auto (h := ?_) | refine WL.gskip rfl rfl rfl rfl ?_ | refine WL.gauto (h := ?_) | (refine CW.seq ?_; intro K hK) | refine CW.block ?_ | refine CW.region ?_ | refine CW.skip ?_ | refine CW.exit ?_ | refine CW.ret ?_ | (refine thn_ret (K := K) ?_; clear hK K) | refine thn_ret ?_ | refine blk_ret ?_ | (refine thn_exit (K := K) ?_; clear hK K) | refine thn_exit ?_ | refine blk_here ?_ | refine blk_past rfl ?_ | refine thn_norm ?_ | refine blk_norm ?_ | refine CW.condT rfl ?_ | refine CW.condF rfl ?_ | (refine hK _ _ ?_; clear hK K))
    refine out1 (v := .int .i64 e5) Try.results62 rfl ?_ (Or.inr rfl)
    rw [if_neg (by simp), hgo4]
    obtain ⟨q1, q2⟩ := back (h6.keep (hp7.chg.mono fun k _ hk => by rw [hk]; exact yn)) (((c4.andThen c6).mono fun k _ hk => Or.inl hk).andThen (hp7.chg.mono fun k _ hk => Or.inr hk))
    refine ⟨rfl, q1, ?_, q2⟩
    simp only [he, if_false, decide_true, ne_eq, not_false_eq_true]
    exact hb7
  · rw [if_neg he] at hgo4
    repeat (first | refine WL.nil ?_ | refine WL.auto (h := ?_) | refine WL.gskip rfl rfl rfl rfl ?_ | refine WL.gauto (h := ?_) | (refine CW.seq ?_; intro K hK) | refine CW.block ?_ | refine CW.region ?_ | refine CW.skip ?_ | refine CW.exit ?_ | refine CW.ret ?_ | (refine thn_ret (K := K) ?_; clear hK K) | refine thn_ret ?_ | refine blk_ret ?_ | (refine thn_exit (K := K) ?_; clear hK K) | refine thn_exit ?_ | refine blk_here ?_ | refine blk_past rfl ?_ | refine thn_norm ?_ | refine blk_norm ?_ | refine CW.condT rfl ?_ | refine CW.condF rfl ?_ | (refine hK _ _ ?_; clear hK K))
    exact hJ _ _ _ (by omega) ⟨_, d5, by omega, rfl, hgo4, by simpa [Nat.add_assoc] using hf5, h6, c4.andThen c6, rep4 rfl rfl rfl rfl⟩)
    · obtain rfl : j = 4 := by omega
      have hgo5 : d.nput r = (0, d') := hgo4
      repeat (first | refine WL.nil ?_ | refine WL.auto (h := ?_) | refine WL.gskip rfl rfl rfl rfl ?_ | refine WL.gauto (h := ?_) | (refine CW.seq ?_; intro K hK) | refine CW.block ?_ | refine CW.region ?_ | refine CW.skip ?_ | refine CW.exit ?_ | refine CW.ret ?_ | (refine thn_ret (K := K) ?_; clear hK K) | refine thn_ret ?_ | refine blk_ret ?_ | (refine thn_exit (K := K) ?_; clear hK K) | refine thn_exit ?_ | refine blk_here ?_ | refine blk_past rfl ?_ | refine thn_norm ?_ | refine blk_norm ?_ | refine CW.condT rfl ?_ | refine CW.condF rfl ?_ | (refine hK _ _ ?_; clear hK K))
      refine WL.step0 ?_
      refine OpW.store (v := .int _ _) rfl rfl rfl bn' rfl (c' := #[_, _, _]) rfl ?_
      intro w5 hp5 hb5
      repeat (first | refine WL.nil ?_ | refine WL.auto (h := ?_) | refine WL.gskip rfl rfl rfl rfl ?_ | refine WL.gauto (h := ?_) | (refine CW.seq ?_; intro K hK) | refine CW.block ?_ | refine CW.region ?_ | refine CW.skip ?_ | refine CW.exit ?_ | refine CW.ret ?_ | (refine thn_ret (K := K) ?_; clear hK K) | refine thn_ret ?_ | refine blk_ret ?_ | (refine thn_exit (K := K) ?_; clear hK K) | refine thn_exit ?_ | refine blk_here ?_ | refine blk_past rfl ?_ | refine thn_norm ?_ | refine blk_norm ?_ | refine CW.condT rfl ?_ | refine CW.condF rfl ?_ | (refine hK _ _ ?_; clear hK K))
      refine out1 (v := .int .i64 0) Try.results62 rfl ?_ (Or.inr rfl)
      rw [if_neg (by simp), hgo5]
      obtain ⟨q1, q2⟩ := back (h4.keep (hp5.chg.mono fun k _ hk => by rw [hk]; exact yn)) ((c4.mono fun k _ hk => Or.inl hk).andThen (hp5.chg.mono fun k _ hk => Or.inr hk))
      exact ⟨rfl, q1, hb5, q2⟩
end B
end Go.Proofs.Ytlofcomnhecgfaa
/- fixed of layer 7. Sizes are bounded. -/
namespace Go.Proofs.Ytlofcomnhecgfaa
namespace B
attribute [local irreducible] OpW WL CW Ret Sl Blk thn blk outOf
set_option linter.unusedVariables false
set_option linter.unusedSimpArgs false
set_option maxRecDepth 4000

theorem newOne {X : Nat → Prop} (w : World) (hX : ∀ k, X k → k < w.heap.size) : Ret Try.prog 30 #[] w fun v w' => ∃ db, v = .pointer (some ⟨db, 0, none⟩) ∧ One X w' db ⟨[], false, 0⟩ ∧ Grow w w' := by
  refine (new30 w).mono ?_
  rintro v w1 ⟨db, rfl, n1⟩
  exact ⟨db, rfl, One.of_new hX n1, n1.grow⟩
theorem nopen_new : PD.nopen ⟨[], false, 0⟩ = (some [], 0, ⟨[], false, 0⟩) := rfl
def nine78 : List UInt8 := [0, 0, 0, 0, 0, 0, 0, 2, 7, 8]
theorem nput_78 : PD.nput ⟨[], false, 0⟩ [7, 8] = (0, ⟨[⟨sLog, nine78, 10⟩, ⟨sMarks, [1], 1⟩], false, 0⟩) := by kernel_rfl
theorem nput_down : (PD.nput ⟨[⟨sLog, nine78, 10⟩, ⟨sMarks, [1], 1⟩], false, 3⟩ []).1 = 51 := by kernel_rfl
theorem base_grow2 {X : Nat → Prop} {W w w' : World} {nb : Nat} (hX : ∀ k, k < W.heap.size → X k) (hn : W.heap.size ≤ nb) (g : Grow W w) (c : Chg (fun k => ¬ X k ∨ k = nb) w w') : Grow W w' := g.chgNew c fun i hi hk => by
  rcases hk with hk | rfl
  · exact hk (hX i hi)
  · omega
theorem fixed60 (w : World) : Ret Try.prog 60 #[] w fun v w' => v = .bool true ∧ Grow w w' := by
  refine Ret.enter (fn := Try.f60) (N := 71) Try.func60 rfl Try.ntmps60 rfl ?_
  repeat (first | refine WL.nil ?_ | refine WL.auto (h := ?_) | refine WL.gskip rfl rfl rfl rfl ?_ | refine WL.gauto (h := ?_) | (refine CW.seq ?_; intro K hK) | refine CW.block ?_ | refine CW.region ?_ | refine CW.skip ?_ | refine CW.exit ?_ | refine CW.ret ?_ | (refine thn_ret (K := K) ?_; clear hK K) | refine thn_ret ?_ | refine blk_ret ?_ | (refine thn_exit (K := K) ?_; clear hK K) | refine thn_exit ?_ | refine blk_here ?_ | refine blk_past rfl ?_ | refine thn_norm ?_ | refine blk_norm ?_ | refine CW.condT rfl ?_ | refine CW.condF rfl ?_ | (refine hK _ _ ?_; clear hK K))
  first | refine WL.step rfl ?_ | refine WL.gstep rfl rfl rfl rfl ?_
  refine OpW.call ((newOne (X := fun k => k < w.heap.size) w (fun _ h => h)).mono ?_) rfl
  rintro v w1 ⟨db, rfl, h1, g1⟩
  repeat (first | refine WL.nil ?_ | refine WL.auto (h := ?_) | refine WL.gskip rfl rfl rfl rfl ?_ | refine WL.gauto (h := ?_) | (refine CW.seq ?_; intro K hK) | refine CW.block ?_ | refine CW.region ?_ | refine CW.skip ?_ | refine CW.exit ?_ | refine CW.ret ?_ | (refine thn_ret (K := K) ?_; clear hK K) | refine thn_ret ?_ | refine blk_ret ?_ | (refine thn_exit (K := K) ?_; clear hK K) | refine thn_exit ?_ | refine blk_here ?_ | refine blk_past rfl ?_ | refine thn_norm ?_ | refine blk_norm ?_ | refine CW.condT rfl ?_ | refine CW.condF rfl ?_ | (refine hK _ _ ?_; clear hK K))
  first | refine WL.step rfl ?_ | refine WL.gstep rfl rfl rfl rfl ?_
  refine OpW.call ((open61 h1 Fit.new (by decide)).mono ?_) rfl
  rintro v w2 ⟨hi, hhi, h2, c2, hv⟩
  rw [nopen_new] at h2 hv
  obtain ⟨nb, RA, rcap, rfl, hn, n1, n2, hr⟩ := hv
  have g2 : Grow w w2 := base_grow (X := fun k => k < w.heap.size) (fun _ h => h) g1 c2
  repeat (first | refine WL.nil ?_ | refine WL.auto (h := ?_) | refine WL.gskip rfl rfl rfl rfl ?_ | refine WL.gauto (h := ?_) | (refine CW.seq ?_; intro K hK) | refine CW.block ?_ | refine CW.region ?_ | refine CW.skip ?_ | refine CW.exit ?_ | refine CW.ret ?_ | (refine thn_ret (K := K) ?_; clear hK K) | refine thn_ret ?_ | refine blk_ret ?_ | (refine thn_exit (K := K) ?_; clear hK K) | refine thn_exit ?_ | refine blk_here ?_ | refine blk_past rfl ?_ | refine thn_norm ?_ | refine blk_norm ?_ | refine CW.condT rfl ?_ | refine CW.condF rfl ?_ | (refine hK _ _ ?_; clear hK K))
  first | refine WL.step rfl ?_ | refine WL.gstep rfl rfl rfl rfl ?_
  refine OpW.buildLit [bv 7, bv 8] rfl rfl rfl (lit1 _ rfl) ?_
  intro b3 w3 n3
  have h3 := h2.more n3.grow
  replace hn := Blk.grow hn n3.grow
  repeat (first | refine WL.nil ?_ | refine WL.auto (h := ?_) | refine WL.gskip rfl rfl rfl rfl ?_ | refine WL.gauto (h := ?_) | (refine CW.seq ?_; intro K hK) | refine CW.block ?_ | refine CW.region ?_ | refine CW.skip ?_ | refine CW.exit ?_ | refine CW.ret ?_ | (refine thn_ret (K := K) ?_; clear hK K) | refine thn_ret ?_ | refine blk_ret ?_ | (refine thn_exit (K := K) ?_; clear hK K) | refine thn_exit ?_ | refine blk_here ?_ | refine blk_past rfl ?_ | refine thn_norm ?_ | refine blk_norm ?_ | refine CW.condT rfl ?_ | refine CW.condF rfl ?_ | (refine hK _ _ ?_; clear hK K))
  first | refine WL.step rfl ?_ | refine WL.gstep rfl rfl rfl rfl ?_
  refine OpW.call ((put62 (r := [7, 8]) h3 hn (Or.inl (Or.inr ⟨n1, n2⟩)) (blk_sl_lit (vs := [bv 7, bv 8]) n3) (fun _ a ha => by cases ha; exact Or.inr ⟨n3.fresh, n3.blk.lt⟩) Fit.new (by decide) (by decide) (by decide)).mono ?_) rfl
  rintro v w4 hv
  rw [if_neg (by simp), nput_78] at hv
  obtain ⟨rfl, h4, hn4, c4⟩ := hv
  have hn4' : IsNode w4 nb db 1 false := hn4
  have hlt : ∀ k, k < w.heap.size → (fun k => (k < w.heap.size ∨ w1.heap.size ≤ k ∧ k < hi) ∨ w2.heap.size ≤ k ∧ k < w3.heap.size) k := fun k hk => Or.inl (Or.inl hk)
  have s1 := g1.size
  have g4 : Grow w w4 := base_grow2 hlt (by omega) (g2.then n3.grow) c4
  repeat (first | refine WL.nil ?_ | refine WL.auto (h := ?_) | refine WL.gskip rfl rfl rfl rfl ?_ | refine WL.gauto (h := ?_) | (refine CW.seq ?_; intro K hK) | refine CW.block ?_ | refine CW.region ?_ | refine CW.skip ?_ | refine CW.exit ?_ | refine CW.ret ?_ | (refine thn_ret (K := K) ?_; clear hK K) | refine thn_ret ?_ | refine blk_ret ?_ | (refine thn_exit (K := K) ?_; clear hK K) | refine thn_exit ?_ | refine blk_here ?_ | refine blk_past rfl ?_ | refine thn_norm ?_ | refine blk_norm ?_ | refine CW.condT rfl ?_ | refine CW.condF rfl ?_ | (refine hK _ _ ?_; clear hK K))
  first | refine WL.step rfl ?_ | refine WL.gstep rfl rfl rfl rfl ?_
  refine OpW.call ((count63 hn4').mono ?_) rfl
  rintro v w5 ⟨rfl, g5⟩
  have h5 := h4.grow g5
  repeat (first | refine WL.nil ?_ | refine WL.auto (h := ?_) | refine WL.gskip rfl rfl rfl rfl ?_ | refine WL.gauto (h := ?_) | (refine CW.seq ?_; intro K hK) | refine CW.block ?_ | refine CW.region ?_ | refine CW.skip ?_ | refine CW.exit ?_ | refine CW.ret ?_ | (refine thn_ret (K := K) ?_; clear hK K) | refine thn_ret ?_ | refine blk_ret ?_ | (refine thn_exit (K := K) ?_; clear hK K) | refine thn_exit ?_ | refine blk_here ?_ | refine blk_past rfl ?_ | refine thn_norm ?_ | refine blk_norm ?_ | refine CW.condT rfl ?_ | refine CW.condF rfl ?_ | (refine hK _ _ ?_; clear hK K))
  have hf5 : Fit ⟨[⟨sLog, nine78, 10⟩, ⟨sMarks, [1], 1⟩], false, 0⟩ (0 + [7, 8].length + 9) := by
    have := Fit.nput (M := 0) Fit.new [7, 8]
    rw [nput_78] at this
    exact this
  first | refine WL.step rfl ?_ | refine WL.gstep rfl rfl rfl rfl ?_
  refine OpW.call ((readOD h5 sLog hf5 (by decide)).mono ?_) rfl
  rintro v w6 ⟨g6, A6, c6, rfl, o6⟩
  rw [show PD.read ⟨[⟨sLog, nine78, 10⟩, ⟨sMarks, [1], 1⟩], false, 0⟩ sLog = (nine78, 0) from by kernel_rfl] at o6 ⊢
  have h6 := h5.grow g6
  repeat (first | refine WL.nil ?_ | refine WL.auto (h := ?_) | refine WL.gskip rfl rfl rfl rfl ?_ | refine WL.gauto (h := ?_) | (refine CW.seq ?_; intro K hK) | refine CW.block ?_ | refine CW.region ?_ | refine CW.skip ?_ | refine CW.exit ?_ | refine CW.ret ?_ | (refine thn_ret (K := K) ?_; clear hK K) | refine thn_ret ?_ | refine blk_ret ?_ | (refine thn_exit (K := K) ?_; clear hK K) | refine thn_exit ?_ | refine blk_here ?_ | refine blk_past rfl ?_ | refine thn_norm ?_ | refine blk_norm ?_ | refine CW.condT rfl ?_ | refine CW.condF rfl ?_ | (refine hK _ _ ?_; clear hK K))
  first | refine WL.step rfl ?_ | refine WL.gstep rfl rfl rfl rfl ?_
  refine OpW.call ((readOD h6 sMarks hf5 (by decide)).mono ?_) rfl
  rintro v w7 ⟨g7, A7, c7, rfl, o7⟩
  rw [show PD.read ⟨[⟨sLog, nine78, 10⟩, ⟨sMarks, [1], 1⟩], false, 0⟩ sMarks = ([1], 0) from by kernel_rfl] at o7 ⊢
  have h7 := h6.more g7
  replace o6 := o6.grow g7
  have hX6 : ∀ a, A6 = some a → w5.heap.size ≤ a.block := fun a ha => (o6.in_ ha).1
  have h7 := h5.more (g6.then g7)
  have hn7 : IsNode w7 nb db 1 false := Blk.grow hn4' (g5.then (g6.then g7))
  repeat (first | refine WL.nil ?_ | refine WL.auto (h := ?_) | refine WL.gskip rfl rfl rfl rfl ?_ | refine WL.gauto (h := ?_) | (refine CW.seq ?_; intro K hK) | refine CW.block ?_ | refine CW.region ?_ | refine CW.skip ?_ | refine CW.exit ?_ | refine CW.ret ?_ | (refine thn_ret (K := K) ?_; clear hK K) | refine thn_ret ?_ | refine blk_ret ?_ | (refine thn_exit (K := K) ?_; clear hK K) | refine thn_exit ?_ | refine blk_here ?_ | refine blk_past rfl ?_ | refine thn_norm ?_ | refine blk_norm ?_ | refine CW.condT rfl ?_ | refine CW.condF rfl ?_ | (refine hK _ _ ?_; clear hK K))
  first | refine WL.step rfl ?_ | refine WL.gstep rfl rfl rfl rfl ?_
  refine OpW.call ((armOD h7 3).mono ?_) rfl
  rintro v w8 ⟨h8, c8⟩
  rw [show PD.arm ⟨[⟨sLog, nine78, 10⟩, ⟨sMarks, [1], 1⟩], false, 0⟩ 3 = ⟨[⟨sLog, nine78, 10⟩, ⟨sMarks, [1], 1⟩], false, 3⟩ from by kernel_rfl] at h8
  have s6 := g6.size
  replace o6 := (o6.zone (Z' := fun k => w5.heap.size ≤ k ∧ k < w7.heap.size) fun a ha => ⟨(o6.in_ ha).1, (o6.in_ ha).2⟩).keep c8 fun k hk hn => hn (Or.inr hk)
  replace o7 := (o7.zone (Z' := fun k => w5.heap.size ≤ k ∧ k < w7.heap.size) fun a ha => ⟨Nat.le_trans s6 (o7.in_ ha).1, (o7.in_ ha).2⟩).keep c8 fun k hk hn => hn (Or.inr hk)
  have xnb : (fun k => ((k < w.heap.size ∨ w1.heap.size ≤ k ∧ k < hi) ∨ w2.heap.size ≤ k ∧ k < w3.heap.size) ∨ w5.heap.size ≤ k ∧ k < w7.heap.size) nb := Or.inl (Or.inl (Or.inr ⟨n1, n2⟩))
  have hn8 : IsNode w8 nb db 1 false := Blk.keep hn7 c8 fun hn => hn xnb
  have g8 : Grow w w8 := base_grow (fun k hk => Or.inl (hlt k hk)) (g4.then (g5.then (g6.then g7))) c8
  have hf8 : Fit ⟨[⟨sLog, nine78, 10⟩, ⟨sMarks, [1], 1⟩], false, 3⟩ 11 := ⟨hf5.good, by decide, hf5.dat⟩
  repeat (first | refine WL.nil ?_ | refine WL.auto (h := ?_) | refine WL.gskip rfl rfl rfl rfl ?_ | refine WL.gauto (h := ?_) | (refine CW.seq ?_; intro K hK) | refine CW.block ?_ | refine CW.region ?_ | refine CW.skip ?_ | refine CW.exit ?_ | refine CW.ret ?_ | (refine thn_ret (K := K) ?_; clear hK K) | refine thn_ret ?_ | refine blk_ret ?_ | (refine thn_exit (K := K) ?_; clear hK K) | refine thn_exit ?_ | refine blk_here ?_ | refine blk_past rfl ?_ | refine thn_norm ?_ | refine blk_norm ?_ | refine CW.condT rfl ?_ | refine CW.condF rfl ?_ | (refine hK _ _ ?_; clear hK K))
  first | refine WL.step rfl ?_ | refine WL.gstep rfl rfl rfl rfl ?_
  refine OpW.toStr rfl o6.sl rfl ?_
  repeat (first | refine WL.nil ?_ | refine WL.auto (h := ?_) | refine WL.gskip rfl rfl rfl rfl ?_ | refine WL.gauto (h := ?_) | (refine CW.seq ?_; intro K hK) | refine CW.block ?_ | refine CW.region ?_ | refine CW.skip ?_ | refine CW.exit ?_ | refine CW.ret ?_ | (refine thn_ret (K := K) ?_; clear hK K) | refine thn_ret ?_ | refine blk_ret ?_ | (refine thn_exit (K := K) ?_; clear hK K) | refine thn_exit ?_ | refine blk_here ?_ | refine blk_past rfl ?_ | refine thn_norm ?_ | refine blk_norm ?_ | refine CW.condT rfl ?_ | refine CW.condF rfl ?_ | (refine hK _ _ ?_; clear hK K))
  first | refine WL.step rfl ?_ | refine WL.gstep rfl rfl rfl rfl ?_
  refine OpW.toStr rfl o7.sl rfl ?_
  repeat (first | refine WL.nil ?_ | refine WL.auto (h := ?_) | refine WL.gskip rfl rfl rfl rfl ?_ | refine WL.gauto (h := ?_) | (refine CW.seq ?_; intro K hK) | refine CW.block ?_ | refine CW.region ?_ | refine CW.skip ?_ | refine CW.exit ?_ | refine CW.ret ?_ | (refine thn_ret (K := K) ?_; clear hK K) | refine thn_ret ?_ | refine blk_ret ?_ | (refine thn_exit (K := K) ?_; clear hK K) | refine thn_exit ?_ | refine blk_here ?_ | refine blk_past rfl ?_ | refine thn_norm ?_ | refine blk_norm ?_ | refine CW.condT rfl ?_ | refine CW.condF rfl ?_ | (refine hK _ _ ?_; clear hK K))
  first | refine WL.step rfl ?_ | refine WL.gstep rfl rfl rfl rfl ?_
  refine OpW.call ((put62 (r := []) (B := none) (rc := 0) h8 hn8 xnb (Sl.nil _ _) (fun hne => absurd rfl hne) hf8 (by decide) (by decide) (by decide)).mono ?_) rfl
  rintro v w9 hv
  rw [if_neg (by simp), nput_down] at hv
  obtain ⟨rfl, h9, hn9, c9⟩ := hv
  have hn9' : IsNode w9 nb db 1 true := hn9
  repeat (first | refine WL.nil ?_ | refine WL.auto (h := ?_) | refine WL.gskip rfl rfl rfl rfl ?_ | refine WL.gauto (h := ?_) | (refine CW.seq ?_; intro K hK) | refine CW.block ?_ | refine CW.region ?_ | refine CW.skip ?_ | refine CW.exit ?_ | refine CW.ret ?_ | (refine thn_ret (K := K) ?_; clear hK K) | refine thn_ret ?_ | refine blk_ret ?_ | (refine thn_exit (K := K) ?_; clear hK K) | refine thn_exit ?_ | refine blk_here ?_ | refine blk_past rfl ?_ | refine thn_norm ?_ | refine blk_norm ?_ | refine CW.condT rfl ?_ | refine CW.condF rfl ?_ | (refine hK _ _ ?_; clear hK K))
  first | refine WL.step rfl ?_ | refine WL.gstep rfl rfl rfl rfl ?_
  refine OpW.call ((sick64 hn9').mono ?_) rfl
  rintro v w10 ⟨rfl, g10⟩
  repeat (first | refine WL.nil ?_ | refine WL.auto (h := ?_) | refine WL.gskip rfl rfl rfl rfl ?_ | refine WL.gauto (h := ?_) | (refine CW.seq ?_; intro K hK) | refine CW.block ?_ | refine CW.region ?_ | refine CW.skip ?_ | refine CW.exit ?_ | refine CW.ret ?_ | (refine thn_ret (K := K) ?_; clear hK K) | refine thn_ret ?_ | refine blk_ret ?_ | (refine thn_exit (K := K) ?_; clear hK K) | refine thn_exit ?_ | refine blk_here ?_ | refine blk_past rfl ?_ | refine thn_norm ?_ | refine blk_norm ?_ | refine CW.condT rfl ?_ | refine CW.condF rfl ?_ | (refine hK _ _ ?_; clear hK K))
  exact out1 (v := .bool true) Try.results60 rfl ⟨rfl, (base_grow2 (fun k hk => Or.inl (hlt k hk)) (by omega) g8 c9).then g10⟩ (Or.inr rfl)
end B
end Go.Proofs.Ytlofcomnhecgfaa
/- Plain: records behind one another are found again. -/
namespace Go.Proofs.Ytlofcomnhecgfaa
namespace B
set_option linter.unusedVariables false
set_option linter.unusedSimpArgs false
set_option maxRecDepth 4000

def enc (rs : List (List UInt8)) : List UInt8 := (rs.map fun r => beN r.length ++ r).flatten
theorem enc_nil : enc [] = [] := rfl
theorem enc_append (a b : List (List UInt8)) : enc (a ++ b) = enc a ++ enc b := by simp [enc]
theorem enc_one (r : List UInt8) : enc [r] = beN r.length ++ r := by simp [enc]
theorem cutOne_put (r t : List UInt8) (h : r.length < 18446744073709551616) : cutOne (beN r.length ++ r ++ t) = some (r, t) := by
  have hl : (beN r.length ++ r ++ t).length = 8 + r.length + t.length := by simp [beN_length]; omega
  have ht : (beN r.length ++ r ++ t).take 8 = beN r.length := by rw [List.append_assoc]; exact List.take_left' rfl
  have hn := numOf_beN r.length h
  unfold cutOne
  rw [if_neg (by omega), ht, hn, if_neg (by omega)]
  have e1 : (beN r.length ++ r ++ t).drop 8 = r ++ t := by rw [List.append_assoc]; exact List.drop_left' rfl
  have e2 : (beN r.length ++ r ++ t).drop (8 + r.length) = t := List.drop_left' (by simp [beN_length])
  rw [e1, e2, List.take_left' rfl]
/-- The records at the front of bytes. -/
theorem cutN_enc : ∀ (rs : List (List UInt8)) (t : List UInt8), (∀ r ∈ rs, r.length < 18446744073709551616) → ∀ n, n ≤ rs.length → cutN (enc rs ++ t) n = some (rs.take n, enc (rs.drop n) ++ t) := by
  intro rs t hr n
  induction n with
  | zero => intro _; simp [cutN]
  | succ n ih =>
    intro hn
    rw [cutN, ih (by omega)]
    simp only
    have h1 : rs.drop n = rs[n] :: rs.drop (n + 1) := List.drop_eq_getElem_cons (by omega)
    have h2 : enc (rs.drop n) ++ t = beN (rs[n]).length ++ rs[n] ++ (enc (rs.drop (n + 1)) ++ t) := by
      have h3 : enc (rs[n] :: rs.drop (n + 1)) = enc [rs[n]] ++ enc (rs.drop (n + 1)) := enc_append [rs[n]] _
      rw [h1, h3, enc_one]
      simp only [List.append_assoc]
    rw [h2, cutOne_put _ _ (hr _ (List.getElem_mem _)), List.take_succ_eq_append_getElem (by omega)]
theorem cutN_all (rs : List (List UInt8)) (t : List UInt8) (hr : ∀ r ∈ rs, r.length < 18446744073709551616) : cutN (enc rs ++ t) rs.length = some (rs, t) := by
  rw [cutN_enc rs t hr _ (Nat.le_refl _)]
  simp [enc_nil]
theorem ones_rep (n : Nat) : ones (List.replicate n 1) = n := by
  unfold ones
  have h1 := List.takeWhile_append_of_pos (p := fun c : UInt8 => decide (c = 1)) (l₁ := List.replicate n 1) (l₂ := []) (fun a ha => by
    rw [List.eq_of_mem_replicate ha]; rfl)
  rw [List.append_nil] at h1
  rw [h1]
  simp
/-- A disk on which so many records were put, the power on. -/
def NDisk (rs : List (List UInt8)) (d : PD) : Prop := d.off = false ∧ d.armed = 0 ∧ ((rs = [] ∧ d.files = []) ∨ d.files = [⟨sLog, enc rs, (enc rs).length⟩, ⟨sMarks, List.replicate rs.length 1, rs.length⟩])
theorem NDisk.new : NDisk [] ⟨[], false, 0⟩ := ⟨rfl, rfl, Or.inl ⟨rfl, rfl⟩⟩
theorem NDisk.put {rs : List (List UInt8)} {d : PD} (h : NDisk rs d) (r : List UInt8) : (d.nput r).1 = 0 ∧ NDisk (rs ++ [r]) (d.nput r).2 := by
  obtain ⟨files, off, armed⟩ := d
  obtain ⟨h1, h2, h3⟩ := h
  simp only at h1 h2 h3
  subst h1 h2
  rcases h3 with ⟨rfl, rfl⟩ | rfl
  · have e1 : PD.nput ⟨[], false, 0⟩ r = (0, ⟨[⟨sLog, beN r.length ++ r, (beN r.length ++ r).length⟩, ⟨sMarks, [1], 1⟩], false, 0⟩) := rfl
    rw [e1]
    exact ⟨rfl, rfl, rfl, Or.inr (by rw [List.nil_append, enc_one]; rfl)⟩
  · have e1 : PD.nput ⟨[⟨sLog, enc rs, (enc rs).length⟩, ⟨sMarks, List.replicate rs.length 1, rs.length⟩], false, 0⟩ r = (0, ⟨[⟨sLog, enc rs ++ (beN r.length ++ r), (enc rs ++ (beN r.length ++ r)).length⟩, ⟨sMarks, List.replicate rs.length 1 ++ [1], (List.replicate rs.length (1 : UInt8) ++ [1]).length⟩], false, 0⟩) := rfl
    rw [e1]
    refine ⟨rfl, rfl, rfl, Or.inr ?_⟩
    have e2 : List.replicate (rs ++ [r]).length (1 : UInt8) = List.replicate rs.length 1 ++ [1] := by rw [List.length_append]; exact List.replicate_succ'
    rw [enc_append, enc_one, e2]
    simp
theorem NDisk.open_ {rs : List (List UInt8)} {d : PD} (h : NDisk rs d) (hr : ∀ r ∈ rs, r.length < 18446744073709551616) : d.nopen = (some rs, 0, d) := by
  obtain ⟨files, off, armed⟩ := d
  obtain ⟨h1, h2, h3⟩ := h
  simp only at h1 h2 h3
  subst h1 h2
  rcases h3 with ⟨rfl, rfl⟩ | rfl
  · rfl
  · have r1 : PD.read1 ⟨[⟨sLog, enc rs, (enc rs).length⟩, ⟨sMarks, List.replicate rs.length 1, rs.length⟩], false, 0⟩ sMarks = (List.replicate rs.length 1, true, 0) := rfl
    have r2 : PD.read1 ⟨[⟨sLog, enc rs, (enc rs).length⟩, ⟨sMarks, List.replicate rs.length 1, rs.length⟩], false, 0⟩ sLog = (enc rs, true, 0) := rfl
    have hc := cutN_all rs [] hr
    rw [List.append_nil] at hc
    have s1 : PD.settled1 ⟨[⟨sLog, enc rs, (enc rs).length⟩, ⟨sMarks, List.replicate rs.length 1, rs.length⟩], false, 0⟩ (List.replicate rs.length 1, true, 0) rs.length = (0, ⟨[⟨sLog, enc rs, (enc rs).length⟩, ⟨sMarks, List.replicate rs.length 1, rs.length⟩], false, 0⟩) := by
      unfold PD.settled1 PD.settle
      rw [if_pos rfl, if_neg (by simp)]
      show (0, (⟨[⟨sLog, enc rs, (enc rs).length⟩, ⟨sMarks, List.replicate rs.length 1, (List.replicate rs.length (1 : UInt8)).length⟩], false, 0⟩ : PD)) = _
      rw [List.length_replicate]
    have s2 : PD.settled ⟨[⟨sLog, enc rs, (enc rs).length⟩, ⟨sMarks, List.replicate rs.length 1, rs.length⟩], false, 0⟩ (List.replicate rs.length 1, true, 0) (enc rs, true, 0) rs.length [] = (0, ⟨[⟨sLog, enc rs, (enc rs).length⟩, ⟨sMarks, List.replicate rs.length 1, rs.length⟩], false, 0⟩) := by
      unfold PD.settled PD.settled2
      rw [s1, if_pos ⟨rfl, rfl⟩]
      unfold PD.settle
      rw [if_neg (by simp)]
      rfl
    unfold PD.nopen
    simp only [r1, r2, ones_rep, hc, s2]
    rfl
theorem NDisk.readLog {rs : List (List UInt8)} {d : PD} (h : NDisk rs d) (hn : rs ≠ []) : d.read sLog = (enc rs, 0) ∧ d.read sMarks = (List.replicate rs.length 1, 0) ∧ waitOf d.files = 0 := by
  obtain ⟨files, off, armed⟩ := d
  obtain ⟨h1, h2, h3⟩ := h
  simp only at h1 h2 h3
  subst h1 h2
  rcases h3 with ⟨rfl, rfl⟩ | rfl
  · exact absurd rfl hn
  · exact ⟨rfl, rfl, by simp [waitOf]⟩
theorem NDisk.fit {rs : List (List UInt8)} {d : PD} (h : NDisk rs d) : Fit d ((enc rs).length + rs.length) := by
  obtain ⟨files, off, armed⟩ := d
  obtain ⟨h1, h2, h3⟩ := h
  simp only at h1 h2 h3
  subst h1 h2
  rcases h3 with ⟨rfl, rfl⟩ | rfl
  · exact Fit.new.le (Nat.zero_le _)
  · refine ⟨⟨by simp, ?_, ?_, ?_⟩, by simp, ?_⟩
    · intro f hf
      simp only [List.mem_cons, List.not_mem_nil, or_false] at hf
      rcases hf with rfl | rfl <;> rfl
    · simp only [List.map_cons, List.map_nil]
      decide
    · intro f hf
      simp only [List.mem_cons, List.not_mem_nil, or_false] at hf
      rcases hf with rfl | rfl <;> simp
    · intro f hf
      simp only [List.mem_cons, List.not_mem_nil, or_false] at hf
      rcases hf with rfl | rfl <;> simp
theorem enc_length (rs : List (List UInt8)) : (enc rs).length = (rs.map fun r => r.length + 8).sum := by
  induction rs with
  | nil => rfl
  | cons r rs ih =>
    have : enc (r :: rs) = enc [r] ++ enc rs := enc_append [r] rs
    rw [this, enc_one, List.length_append, ih]
    simp [beN_length]
    omega
end B
end Go.Proofs.Ytlofcomnhecgfaa
