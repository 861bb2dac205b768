/- The walk of one law, put together out of smaller texts. Sizes are bounded. -/
import Derived.Test.YtlofcomnhecgfaaLibF
/- Open, of both nodes, told without a case. Sizes are bounded. -/
namespace Go.Proofs.Ytlofcomnhecgfaa
namespace B
attribute [local irreducible] OpW WL CW Ret Sl Blk thn blk outOf
set_option linter.unusedVariables false
set_option linter.unusedSimpArgs false
set_option maxRecDepth 4000

def found (d : PD) : List (List UInt8) := d.nopen.1.getD []
theorem found_len {d : PD} {M : Nat} (h : Fit d M) : (found d).length ≤ M := by
  unfold found
  cases hr : d.nopen with
  | mk o ed =>
    obtain ⟨e, d'⟩ := ed
    cases o with
    | none => simp
    | some rs => exact (nopen_some h hr).2.1
section
variable {X : Nat → Prop} {w : World} {db mb : Nat} {d m : PD} {M : Nat}
theorem openP61 (h : Two X w db d mb m) (hf : Fit d M) (hM : M ≤ 68719476736) :
    Ret Try.prog 61 #[.pointer (some ⟨db, 0, none⟩)] w fun v w' => ∃ (Z : Nat → Prop) (np RA : Option Addr) (rcap : Nat), v = .tuple #[.pointer np, .slice RA (found d).length rcap, .int .i64 d.nopen.2.1] ∧ (∀ k, Z k → w.heap.size ≤ k) ∧ Two (fun k => X k ∨ Z k) w' db d.nopen.2.2 mb m ∧ Chg (fun k => ¬ X k) w w' ∧
      (∀ w'', Chg (fun k => ¬ (X k ∨ Z k)) w' w'' → RowsIn w'' RA (found d)) ∧ ((d.nopen.1.isNone = true ∧ np = none) ∨ (d.nopen.1.isNone = false ∧ ∃ nb, np = some ⟨nb, 0, none⟩ ∧ IsNode w' nb db (found d).length false ∧ Z nb)) := by
  have hsz := @nopen_some d _ hf
  refine (openT61 h hf hM).mono ?_
  rintro v w1 ⟨Z, hi, z1, z2, h1, c1, hv⟩
  unfold found
  cases hr : d.nopen with
  | mk o ed =>
    obtain ⟨e, d'⟩ := ed
    rw [hr] at h1 hv hsz
    cases o with
    | none =>
      obtain rfl := hv
      exact ⟨Z, none, none, 0, rfl, z1, h1, c1, fun w'' _ => RowsIn.nil _, Or.inl ⟨rfl, rfl⟩⟩
    | some rs =>
      obtain ⟨rfl, _⟩ := hsz rfl
      obtain ⟨nb, RA, rcap, rfl, hn, znb, hrec⟩ := hv
      exact ⟨Z, _, RA, rcap, rfl, z1, h1, c1, fun w'' c => (hrec.keep c fun b q1 q2 hn => hn (Or.inr (z2 b q1 q2))).in_, Or.inr ⟨rfl, nb, rfl, hn, znb⟩⟩
theorem openP65 (h : Two X w db d mb m) (hf : Fit m M) (hM : M ≤ 68719476736) :
    Ret Try.prog 65 #[.pointer (some ⟨mb, 0, none⟩)] w fun v w' => ∃ (Z : Nat → Prop) (np RA : Option Addr) (rcap : Nat), v = .tuple #[.pointer np, .slice RA (found m).length rcap, .int .i64 m.nopen.2.1] ∧ (∀ k, Z k → w.heap.size ≤ k) ∧ Two (fun k => X k ∨ Z k) w' db d mb m.nopen.2.2 ∧ Chg (fun k => ¬ X k) w w' ∧
      (∀ w'', Chg (fun k => ¬ (X k ∨ Z k)) w' w'' → RowsIn w'' RA (found m)) ∧ ((m.nopen.1.isNone = true ∧ np = none) ∨ (m.nopen.1.isNone = false ∧ ∃ nb, np = some ⟨nb, 0, none⟩ ∧ IsNodeM w' nb mb (found m).length false ∧ Z nb)) := by
  have hsz := @nopen_some m _ hf
  refine (open65 h hf hM).mono ?_
  rintro v w1 ⟨Z, hi, z1, z2, h1, c1, hv⟩
  unfold found
  cases hr : m.nopen with
  | mk o ed =>
    obtain ⟨e, d'⟩ := ed
    rw [hr] at h1 hv hsz
    cases o with
    | none =>
      obtain rfl := hv
      exact ⟨Z, none, none, 0, rfl, z1, h1, c1, fun w'' _ => RowsIn.nil _, Or.inl ⟨rfl, rfl⟩⟩
    | some rs =>
      obtain ⟨rfl, _⟩ := hsz rfl
      obtain ⟨nb, RA, rcap, rfl, hn, znb, hrec⟩ := hv
      exact ⟨Z, _, RA, rcap, rfl, z1, h1, c1, fun w'' c => (hrec.keep c fun b q1 q2 hn => hn (Or.inr (z2 b q1 q2))).in_, Or.inr ⟨rfl, nb, rfl, hn, znb⟩⟩
/-- What Put does to a disk and a node, sick or not. -/
def nputS (d : PD) (s : Bool) (c : Nat) (r : List UInt8) : Int × PD × Nat × Bool := if s = true then (52, d, c, true) else ((d.nput r).1, (d.nput r).2, if (d.nput r).1 = 0 then c + 1 else c, decide ((d.nput r).1 ≠ 0))
theorem nputS_fit {s : Bool} {c : Nat} {r : List UInt8} (h : Fit d M) : Fit (nputS d s c r).2.1 (M + r.length + 9) ∧ (nputS d s c r).2.2.1 ≤ c + 1 := by
  unfold nputS
  split
  · exact ⟨h.le (by omega), by simp⟩
  · refine ⟨h.nput r, ?_⟩
    simp only
    split <;> omega
theorem putS62 {nb c : Nat} {s : Bool} {r : List UInt8} {B : Option Addr} {rc : Nat} (h : Two X w db d mb m) (hn : IsNode w nb db c s) (x1 : X nb) (hB : Sl w B (bvs r)) (hBX : r ≠ [] → ∀ a, B = some a → X a.block) (hf : Fit d M) (hM : M ≤ 34359738368) (hr : r.length ≤ 1048576) (hc : c ≤ 1099511627776) :
    Ret Try.prog 62 #[.pointer (some ⟨nb, 0, none⟩), .slice B r.length rc] w fun v w' => v = .int .i64 (nputS d s c r).1 ∧ Two X w' db (nputS d s c r).2.1 mb m ∧ IsNode w' nb db (nputS d s c r).2.2.1 (nputS d s c r).2.2.2 ∧ Chg (fun k => ¬ X k ∨ k = nb) w w' := by
  refine (putT62 h hn x1 hB hBX hf hM hr hc).mono ?_
  intro v w1 hv
  unfold nputS
  cases s with
  | true =>
    rw [if_pos rfl] at hv ⊢
    exact ⟨hv.1, h.grow hv.2, Blk.grow hn hv.2, Chg.to hv.2⟩
  | false =>
    rw [if_neg (by simp)] at hv ⊢
    exact hv
theorem putS67 {nb c : Nat} {s : Bool} {r : List UInt8} {B : Option Addr} {rc : Nat} (h : Two X w db d mb m) (hn : IsNodeM w nb mb c s) (x1 : X nb) (hB : Sl w B (bvs r)) (hf : Fit m M) (hM : M ≤ 34359738368) (hr : r.length ≤ 1048576) (hc : c ≤ 1099511627776) :
    Ret Try.prog 67 #[.pointer (some ⟨nb, 0, none⟩), .slice B r.length rc] w fun v w' => v = .int .i64 (nputS m s c r).1 ∧ Two X w' db d mb (nputS m s c r).2.1 ∧ IsNodeM w' nb mb (nputS m s c r).2.2.1 (nputS m s c r).2.2.2 ∧ Chg (fun k => ¬ X k ∨ k = nb) w w' := by
  refine (put67 h hn x1 hB hf hM hr hc).mono ?_
  intro v w1 hv
  unfold nputS
  cases s with
  | true =>
    rw [if_pos rfl] at hv ⊢
    exact ⟨hv.1, h.grow hv.2, Blk.grow hn hv.2, Chg.to hv.2⟩
  | false =>
    rw [if_neg (by simp)] at hv ⊢
    exact hv
end
theorem node_ne {w : World} {nb db c nbm mb c' : Nat} {s s' : Bool} (h : IsNode w nb db c s) (h' : IsNodeM w nbm mb c' s') : nbm ≠ nb := by
  rintro rfl
  unfold IsNode Blk at h
  unfold IsNodeM Blk at h'
  rw [h] at h'
  cases h'
end B
end Go.Proofs.Ytlofcomnhecgfaa
/- The walk of isthmuslaw06.DiskSafe: it is true. Sizes are bounded. -/
namespace Go.Proofs.Ytlofcomnhecgfaa
namespace B
attribute [local irreducible] OpW WL CW Ret Sl Blk thn blk outOf
set_option linter.unusedVariables false
set_option linter.unusedSimpArgs false
set_option maxRecDepth 4000

theorem crash_prefix {f : PF} {ks : List Bool} {k : Nat} (h : f.safe + k ≤ f.data.length) : (crashRun f ks k).1.take f.safe = f.data.take f.safe := by
  induction k with
  | zero => simp [crashRun, List.take_take]
  | succ k ih =>
    have h1 := ih (by omega)
    have h2 := (crashRun_len (f := f) (ks := ks) (k := k) (by omega)).1
    rw [crashRun_step (by omega)]
    unfold crashStep
    split <;> rw [List.take_append_of_le_length (l₁ := (crashRun f ks k).1) (by omega)] <;> exact h1
theorem crash_all {f : PF} {m : Nat} : ∀ k, k ≤ m → f.safe + k ≤ f.data.length → crashRun f (List.replicate m true) k = (f.data.take (f.safe + k), f.safe + k, List.replicate (m - k) true) := by
  intro k
  induction k with
  | zero => intro _ _; simp [crashRun]
  | succ k ih =>
    intro h1 h2
    rw [crashRun_step (by omega), ih (by omega) (by omega)]
    have h3 : List.replicate (m - k) true = true :: List.replicate (m - (k + 1)) true := by
      rw [show m - k = (m - (k + 1)) + 1 from by omega, List.replicate_succ]
    rw [h3]
    have h4 : f.data.take (f.safe + (k + 1)) = f.data.take (f.safe + k) ++ [f.data[f.safe + k]] := by
      rw [show f.safe + (k + 1) = f.safe + k + 1 from rfl, List.take_succ_eq_append_getElem (by omega)]
    simp only [crashStep, h4]
    rw [List.length_take, Nat.min_eq_left (by omega)]
    rfl
theorem crashFile_all {f : PF} (h : f.safe ≤ f.data.length) : (crashFile f (List.replicate (f.data.length - f.safe) true)).1 = f.data := by
  unfold crashFile
  rw [crash_all _ (Nat.le_refl _) (by omega)]
  simp only
  rw [show f.safe + (f.data.length - f.safe) = f.data.length from by omega]
  simp
theorem crashFile_mid {f : PF} (h : f.safe ≤ f.data.length) (ks : List Bool) : f.safe ≤ (crashFile f ks).1.length ∧ (crashFile f ks).1.length ≤ f.data.length ∧ (crashFile f ks).1.take f.safe = f.data.take f.safe := by
  have h1 := crashRun_len (f := f) (ks := ks) (k := f.data.length - f.safe) (by omega)
  have h2 := crash_prefix (f := f) (ks := ks) (k := f.data.length - f.safe) (by omega)
  unfold crashFile
  simp only
  refine ⟨by rw [List.length_take]; omega, by rw [List.length_take]; omega, ?_⟩
  rw [List.take_take, Nat.min_eq_left h1.2.1, h2]

theorem vset (k n : Nat) (h : k < n) : (List.replicate k (Value.bool true) ++ List.replicate (n - k) (Value.bool false)).set k (.bool true) = List.replicate (k + 1) (Value.bool true) ++ List.replicate (n - (k + 1)) (Value.bool false) := by
  rw [show n - k = (n - (k + 1)) + 1 from by omega, List.replicate_succ, List.set_append_right (h := by simp)]
  simp [List.replicate_succ']

theorem safe8 (A0 A1 KA : Option Addr) (cap0 cap1 kcap : Nat) (a b : List UInt8) (ks : List Bool) (W : World) (ha : Sl W A0 (bvs a)) (hb : Sl W A1 (bvs b)) (hk : Sl W KA (ks.map .bool)) (hkc : ks.length ≤ kcap) (hac : a.length ≤ cap0)
    (hla : a.length ≤ 1048576) (hlb : b.length ≤ 1048576) (hlk : ks.length ≤ 1048576) :
    Ret Try.prog 8 #[.slice A0 a.length cap0, .slice A1 b.length cap1, .slice KA ks.length kcap] W fun v w' => v = .bool true ∧ Grow W w' := by
  refine Ret.enter (fn := Try.f8) (N := 125) Try.func8 rfl Try.ntmps8 rfl ?_
  repeat (first | refine WL.nil ?_ | refine WL.auto (h := ?_) | refine WL.gskip rfl rfl rfl rfl ?_ | refine WL.gauto (h := ?_) | (refine CW.seq ?_; intro K hK) | refine CW.block ?_ | refine CW.region ?_ | refine CW.skip ?_ | refine CW.exit ?_ | refine CW.ret ?_ | (refine thn_ret (K := K) ?_; clear hK K) | refine thn_ret ?_ | refine blk_ret ?_ | (refine thn_exit (K := K) ?_; clear hK K) | refine thn_exit ?_ | refine blk_here ?_ | refine blk_past rfl ?_ | refine thn_norm ?_ | refine blk_norm ?_ | refine CW.condT rfl ?_ | refine CW.condF rfl ?_ | (refine hK _ _ ?_; clear hK K))
  first | refine WL.step rfl ?_ | refine WL.gstep rfl rfl rfl rfl ?_
  refine OpW.call ((fixed31 W).mono ?_) rfl
  rintro v w1 ⟨rfl, g1⟩
  repeat (first | refine WL.nil ?_ | refine WL.auto (h := ?_) | refine WL.gskip rfl rfl rfl rfl ?_ | refine WL.gauto (h := ?_) | (refine CW.seq ?_; intro K hK) | refine CW.block ?_ | refine CW.region ?_ | refine CW.skip ?_ | refine CW.exit ?_ | refine CW.ret ?_ | (refine thn_ret (K := K) ?_; clear hK K) | refine thn_ret ?_ | refine blk_ret ?_ | (refine thn_exit (K := K) ?_; clear hK K) | refine thn_exit ?_ | refine blk_here ?_ | refine blk_past rfl ?_ | refine thn_norm ?_ | refine blk_norm ?_ | refine CW.condT rfl ?_ | refine CW.condF rfl ?_ | (refine hK _ _ ?_; clear hK K))
  first | refine WL.step rfl ?_ | refine WL.gstep rfl rfl rfl rfl ?_
  refine OpW.call ((newHD w1).mono ?_) rfl
  rintro v w2 ⟨db, rfl, h2⟩
  repeat (first | refine WL.nil ?_ | refine WL.auto (h := ?_) | refine WL.gskip rfl rfl rfl rfl ?_ | refine WL.gauto (h := ?_) | (refine CW.seq ?_; intro K hK) | refine CW.block ?_ | refine CW.region ?_ | refine CW.skip ?_ | refine CW.exit ?_ | refine CW.ret ?_ | (refine thn_ret (K := K) ?_; clear hK K) | refine thn_ret ?_ | refine blk_ret ?_ | (refine thn_exit (K := K) ?_; clear hK K) | refine thn_exit ?_ | refine blk_here ?_ | refine blk_past rfl ?_ | refine thn_norm ?_ | refine blk_norm ?_ | refine CW.condT rfl ?_ | refine CW.condF rfl ?_ | (refine hK _ _ ?_; clear hK K))
  have z1 : W.heap.size ≤ w1.heap.size := g1.size
  first | refine WL.step rfl ?_ | refine WL.gstep rfl rfl rfl rfl ?_
  refine OpW.call ((appendHD h2 (Chg.refl _ _) [120] a A0 cap0 (by decide) (by decide) (by decide) ((ha.grow g1).grow h2.g) (fun hne x hx => Or.inl (by have := ha.lt (ne_bvs hne) hx; omega)) (by omega) (by simp)).mono ?_) rfl
  rintro v w3 ⟨rfl, h3⟩
  rw [show (PD.append ⟨[], false, 0⟩ [120] a) = (0, ⟨[⟨[120], a, 0⟩], false, 0⟩) from rfl] at h3 ⊢
  repeat (first | refine WL.nil ?_ | refine WL.auto (h := ?_) | refine WL.gskip rfl rfl rfl rfl ?_ | refine WL.gauto (h := ?_) | (refine CW.seq ?_; intro K hK) | refine CW.block ?_ | refine CW.region ?_ | refine CW.skip ?_ | refine CW.exit ?_ | refine CW.ret ?_ | (refine thn_ret (K := K) ?_; clear hK K) | refine thn_ret ?_ | refine blk_ret ?_ | (refine thn_exit (K := K) ?_; clear hK K) | refine thn_exit ?_ | refine blk_here ?_ | refine blk_past rfl ?_ | refine thn_norm ?_ | refine blk_norm ?_ | refine CW.condT rfl ?_ | refine CW.condF rfl ?_ | (refine hK _ _ ?_; clear hK K))
  first | refine WL.step rfl ?_ | refine WL.gstep rfl rfl rfl rfl ?_
  refine OpW.call ((syncHD h3 [120] (Nat.zero_le _) (by simp)).mono ?_) rfl
  rintro v w4 ⟨rfl, h4⟩
  rw [show (PD.sync ⟨[⟨[120], a, 0⟩], false, 0⟩ [120]) = (0, ⟨[⟨[120], a, a.length⟩], false, 0⟩) from rfl] at h4 ⊢
  repeat (first | refine WL.nil ?_ | refine WL.auto (h := ?_) | refine WL.gskip rfl rfl rfl rfl ?_ | refine WL.gauto (h := ?_) | (refine CW.seq ?_; intro K hK) | refine CW.block ?_ | refine CW.region ?_ | refine CW.skip ?_ | refine CW.exit ?_ | refine CW.ret ?_ | (refine thn_ret (K := K) ?_; clear hK K) | refine thn_ret ?_ | refine blk_ret ?_ | (refine thn_exit (K := K) ?_; clear hK K) | refine thn_exit ?_ | refine blk_here ?_ | refine blk_past rfl ?_ | refine thn_norm ?_ | refine blk_norm ?_ | refine CW.condT rfl ?_ | refine CW.condF rfl ?_ | (refine hK _ _ ?_; clear hK K))
  first | refine WL.step rfl ?_ | refine WL.gstep rfl rfl rfl rfl ?_
  refine OpW.call ((appendHD h4 (Chg.refl _ _) [120] b A1 cap1 (Nat.zero_le _) (by simp) (by decide) ((hb.grow g1).grow h4.g) (fun hne x hx => Or.inl (by have := hb.lt (ne_bvs hne) hx; omega)) (by omega) (by simp; omega)).mono ?_) rfl
  rintro v w5 ⟨rfl, h5⟩
  rw [show (PD.append ⟨[⟨[120], a, a.length⟩], false, 0⟩ [120] b) = (0, ⟨[⟨[120], a ++ b, a.length⟩], false, 0⟩) from rfl] at h5 ⊢
  have hab : (a ++ b).length = a.length + b.length := List.length_append
  have hfl : ∀ f ∈ (⟨[⟨[120], a ++ b, a.length⟩], false, 0⟩ : PD).files, f.data.length ≤ 1099511627776 ∧ f.safe ≤ f.data.length := by
    intro f hf
    simp only [List.mem_cons, List.not_mem_nil, or_false] at hf
    subst hf
    simp only
    omega
  repeat (first | refine WL.nil ?_ | refine WL.auto (h := ?_) | refine WL.gskip rfl rfl rfl rfl ?_ | refine WL.gauto (h := ?_) | (refine CW.seq ?_; intro K hK) | refine CW.block ?_ | refine CW.region ?_ | refine CW.skip ?_ | refine CW.exit ?_ | refine CW.ret ?_ | (refine thn_ret (K := K) ?_; clear hK K) | refine thn_ret ?_ | refine blk_ret ?_ | (refine thn_exit (K := K) ?_; clear hK K) | refine thn_exit ?_ | refine blk_here ?_ | refine blk_past rfl ?_ | refine thn_norm ?_ | refine blk_norm ?_ | refine CW.condT rfl ?_ | refine CW.condF rfl ?_ | (refine hK _ _ ?_; clear hK K))
  first | refine WL.step rfl ?_ | refine WL.gstep rfl rfl rfl rfl ?_
  refine OpW.call ((crashHD h5 KA kcap ks (by simp) hfl ((hk.grow g1).grow h5.g) (by omega) hkc).mono ?_) rfl
  rintro v w6 ⟨g6, OA, cap, col, rfl, o6⟩
  obtain ⟨m1, m2, m3⟩ := crashFile_mid (f := ⟨[120], a ++ b, a.length⟩) (by simp) ks
  rw [show (crashAll [⟨[120], a ++ b, a.length⟩] ks).1 = [([120], (crashFile ⟨[120], a ++ b, a.length⟩ ks).1)] from rfl] at o6 ⊢
  generalize (crashFile ⟨[120], a ++ b, a.length⟩ ks).1 = c at *
  simp only [List.take_left', hab] at m1 m2 m3
  obtain ⟨cells, DA, q1, q2, q3, q4, q5, q6⟩ := o6.at_ (i := 0) (x := ([120], c)) rfl
  simp only at q4 q5 q6
  have h6 := h5.grow g6
  repeat (first | refine WL.nil ?_ | refine WL.auto (h := ?_) | refine WL.gskip rfl rfl rfl rfl ?_ | refine WL.gauto (h := ?_) | (refine CW.seq ?_; intro K hK) | refine CW.block ?_ | refine CW.region ?_ | refine CW.skip ?_ | refine CW.exit ?_ | refine CW.ret ?_ | (refine thn_ret (K := K) ?_; clear hK K) | refine thn_ret ?_ | refine blk_ret ?_ | (refine thn_exit (K := K) ?_; clear hK K) | refine thn_exit ?_ | refine blk_here ?_ | refine blk_past rfl ?_ | refine thn_norm ?_ | refine blk_norm ?_ | refine CW.condT rfl ?_ | refine CW.condF rfl ?_ | (refine hK _ _ ?_; clear hK K))
  refine CW.quiet rfl (by kernel_rfl) ?_
  repeat (first | refine QL.nil ?_ | refine QL.auto (hn := ?_) | refine QL.gskip rfl rfl rfl rfl ?_ | refine QL.gauto (hn := ?_))
  have q1' : ∀ w, Grow w6 w → Sl w OA cells := fun w hg => q1.grow hg
  have hlen : ¬ ((c.length : Int) < (a.length : Int)) := by omega
  have hlen2 : ¬ ((a.length : Int) + (b.length : Int) < (c.length : Int)) := by omega
  refine QL.gstep rfl rfl rfl rfl rfl (fun w hg => OpW.indexAddr 0 rfl rfl rfl (by simp) q2 q3 ⟨rfl, rfl⟩) ?_
  repeat (first | refine QL.nil ?_ | refine QL.auto (hn := ?_) | refine QL.gskip rfl rfl rfl rfl ?_ | refine QL.gauto (hn := ?_))
  rw [decide_eq_false hlen]
  repeat (first | refine QL.nil ?_ | refine QL.auto (hn := ?_) | refine QL.gskip rfl rfl rfl rfl ?_ | refine QL.gauto (hn := ?_))
  refine QL.gstep rfl rfl rfl rfl rfl (fun w hg => OpW.indexAddr 0 rfl rfl rfl (by simp) q2 q3 ⟨rfl, rfl⟩) ?_
  repeat (first | refine QL.nil ?_ | refine QL.auto (hn := ?_) | refine QL.gskip rfl rfl rfl rfl ?_ | refine QL.gauto (hn := ?_))
  rw [decide_eq_false hlen2]
  repeat (first | refine QL.nil ?_ | refine QL.auto (hn := ?_) | refine QL.gskip rfl rfl rfl rfl ?_ | refine QL.gauto (hn := ?_))
  refine QL.gstep rfl rfl rfl rfl rfl (fun w hg => OpW.indexAddr 0 rfl rfl rfl (by simp) q2 q3 ⟨rfl, rfl⟩) ?_
  repeat (first | refine QL.nil ?_ | refine QL.auto (hn := ?_) | refine QL.gskip rfl rfl rfl rfl ?_ | refine QL.gauto (hn := ?_))
  refine QL.gstep rfl rfl rfl rfl rfl (fun w hg => OpW.sliceHi a.length rfl rfl rfl (by omega) ⟨rfl, rfl⟩) ?_
  have q7 : Sl w6 DA (bvs a) := by
    have := q6.sl.take a.length
    rwa [bvs_take, m3] at this
  refine QL.gstep rfl rfl rfl rfl rfl (fun w hg => OpW.toStr rfl (q7.grow hg) rfl ⟨rfl, rfl⟩) ?_
  repeat (first | refine QL.nil ?_ | refine QL.auto (hn := ?_) | refine QL.gskip rfl rfl rfl rfl ?_ | refine QL.gauto (hn := ?_))
  have a6 : Sl w6 A0 (bvs a) := (ha.grow g1).grow h6.g
  refine QL.gstep rfl rfl rfl rfl rfl (fun w hg => OpW.toStr rfl (a6.grow hg) rfl ⟨rfl, rfl⟩) ?_
  repeat (first | refine QL.nil ?_ | refine QL.auto (hn := ?_) | refine QL.gskip rfl rfl rfl rfl ?_ | refine QL.gauto (hn := ?_))
  rw [show decide (¬ a = a) = false from by simp]
  repeat (first | refine QL.nil ?_ | refine QL.auto (hn := ?_) | refine QL.gskip rfl rfl rfl rfl ?_ | refine QL.gauto (hn := ?_))
  intro w7 g7
  have h7 := h6.grow g7
  repeat (first | refine WL.nil ?_ | refine WL.auto (h := ?_) | refine WL.gskip rfl rfl rfl rfl ?_ | refine WL.gauto (h := ?_) | (refine CW.seq ?_; intro K hK) | refine CW.block ?_ | refine CW.region ?_ | refine CW.skip ?_ | refine CW.exit ?_ | refine CW.ret ?_ | (refine thn_ret (K := K) ?_; clear hK K) | refine thn_ret ?_ | refine blk_ret ?_ | (refine thn_exit (K := K) ?_; clear hK K) | refine thn_exit ?_ | refine blk_here ?_ | refine blk_past rfl ?_ | refine thn_norm ?_ | refine blk_norm ?_ | refine CW.condT rfl ?_ | refine CW.condF rfl ?_ | (refine hK _ _ ?_; clear hK K))
  first | refine WL.step rfl ?_ | refine WL.gstep rfl rfl rfl rfl ?_
  refine OpW.makeSlice (n := b.length) rfl rfl rfl (by omega) (by omega) (fun b8 w8 n8 => ?_)
  have h8 := h7.grow n8.grow
  have o8 : Own w8 (some ⟨b8, 0, none⟩) 4 1 b.length b.length (List.replicate b.length (.bool false)) (fun k => k = b8) := by
    have h9 := Own.lit (n := b.length) (xs := List.replicate b.length (Value.bool false)) n8 (by simp) (by simp) (by unfold maxLen; omega)
    exact h9.zone fun a ha => by cases ha; rfl
  repeat (first | refine WL.nil ?_ | refine WL.auto (h := ?_) | refine WL.gskip rfl rfl rfl rfl ?_ | refine WL.gauto (h := ?_) | (refine CW.seq ?_; intro K hK) | refine CW.block ?_ | refine CW.region ?_ | refine CW.skip ?_ | refine CW.exit ?_ | refine CW.ret ?_ | (refine thn_ret (K := K) ?_; clear hK K) | refine thn_ret ?_ | refine blk_ret ?_ | (refine thn_exit (K := K) ?_; clear hK K) | refine thn_exit ?_ | refine blk_here ?_ | refine blk_past rfl ?_ | refine thn_norm ?_ | refine blk_norm ?_ | refine CW.condT rfl ?_ | refine CW.condF rfl ?_ | (refine hK _ _ ?_; clear hK K))
  refine CW.loop (fun n' e w9 => ∃ k, k ≤ b.length ∧ n' = b.length - k ∧ Chg (· = b8) w8 w9 ∧ Own w9 (some ⟨b8, 0, none⟩) 4 1 b.length b.length (List.replicate k (Value.bool true) ++ List.replicate (b.length - k) (Value.bool false)) (fun k => k = b8) ∧
    ∃ e0, e = upd (upd (upd (upd (upd (upd e0 0 (.slice A0 a.length cap0)) 1 (.slice A1 b.length cap1)) 7 (.pointer (some ⟨db, 0, none⟩))) 9 (.slice (some ⟨b8, 0, none⟩) b.length b.length)) 82 (.int .i64 b.length)) 83 (.int .i64 k)) b.length ?_ ?_
  · exact ⟨0, by omega, rfl, Chg.refl _ _, by simpa using o8, rep6 rfl rfl rfl rfl rfl rfl⟩
  rintro n' e w9 ⟨k, hk, rfl, c9, o9, e0, rfl⟩ KJ hJ
  repeat (first | refine WL.nil ?_ | refine WL.auto (h := ?_) | refine WL.gskip rfl rfl rfl rfl ?_ | refine WL.gauto (h := ?_) | (refine CW.seq ?_; intro K hK) | refine CW.block ?_ | refine CW.region ?_ | refine CW.skip ?_ | refine CW.exit ?_ | refine CW.ret ?_ | (refine thn_ret (K := K) ?_; clear hK K) | refine thn_ret ?_ | refine blk_ret ?_ | (refine thn_exit (K := K) ?_; clear hK K) | refine thn_exit ?_ | refine blk_here ?_ | refine blk_past rfl ?_ | refine thn_norm ?_ | refine blk_norm ?_ | refine CW.condT rfl ?_ | refine CW.condF rfl ?_ | (refine hK _ _ ?_; clear hK K))
  refine CW.condP rfl (fun hc => ?_) (fun hc => ?_)
  · have hkl : k < b.length := by omega
    repeat (first | refine WL.nil ?_ | refine WL.auto (h := ?_) | refine WL.gskip rfl rfl rfl rfl ?_ | refine WL.gauto (h := ?_) | (refine CW.seq ?_; intro K hK) | refine CW.block ?_ | refine CW.region ?_ | refine CW.skip ?_ | refine CW.exit ?_ | refine CW.ret ?_ | (refine thn_ret (K := K) ?_; clear hK K) | refine thn_ret ?_ | refine blk_ret ?_ | (refine thn_exit (K := K) ?_; clear hK K) | refine thn_exit ?_ | refine blk_here ?_ | refine blk_past rfl ?_ | refine thn_norm ?_ | refine blk_norm ?_ | refine CW.condT rfl ?_ | refine CW.condF rfl ?_ | (refine hK _ _ ?_; clear hK K))
    first | refine WL.step rfl ?_ | refine WL.gstep rfl rfl rfl rfl ?_
    refine OpW.indexAddr k rfl rfl rfl hkl (by simp) (spot_own o9) ?_
    repeat (first | refine WL.nil ?_ | refine WL.auto (h := ?_) | refine WL.gskip rfl rfl rfl rfl ?_ | refine WL.gauto (h := ?_) | (refine CW.seq ?_; intro K hK) | refine CW.block ?_ | refine CW.region ?_ | refine CW.skip ?_ | refine CW.exit ?_ | refine CW.ret ?_ | (refine thn_ret (K := K) ?_; clear hK K) | refine thn_ret ?_ | refine blk_ret ?_ | (refine thn_exit (K := K) ?_; clear hK K) | refine thn_exit ?_ | refine blk_here ?_ | refine blk_past rfl ?_ | refine thn_norm ?_ | refine blk_norm ?_ | refine CW.condT rfl ?_ | refine CW.condF rfl ?_ | (refine hK _ _ ?_; clear hK K))
    refine WL.step0 ?_
    refine OpW.storeOwn (v := .bool true) rfl rfl rfl o9 hkl ?_
    intro w10 o10 c10 _
    rw [vset k b.length hkl] at o10
    repeat (first | refine WL.nil ?_ | refine WL.auto (h := ?_) | refine WL.gskip rfl rfl rfl rfl ?_ | refine WL.gauto (h := ?_) | (refine CW.seq ?_; intro K hK) | refine CW.block ?_ | refine CW.region ?_ | refine CW.skip ?_ | refine CW.exit ?_ | refine CW.ret ?_ | (refine thn_ret (K := K) ?_; clear hK K) | refine thn_ret ?_ | refine blk_ret ?_ | (refine thn_exit (K := K) ?_; clear hK K) | refine thn_exit ?_ | refine blk_here ?_ | refine blk_past rfl ?_ | refine thn_norm ?_ | refine blk_norm ?_ | refine CW.condT rfl ?_ | refine CW.condF rfl ?_ | (refine hK _ _ ?_; clear hK K))
    exact hJ (b.length - (k + 1)) _ _ (by omega) ⟨k + 1, by omega, rfl, c9.andThen (c10.mono fun i _ ⟨a, ha, e⟩ => by cases ha; exact e.symm), o10, rep6 rfl rfl rfl rfl rfl (congrArg (Value.int .i64) (by omega))⟩
  · obtain rfl : k = b.length := by omega
    have gw8 := n8.grow.chgNew c9 (fun i hi e => by have := n8.fresh; omega)
    have h9 := h7.grow gw8
    have k9 : Sl w9 (some ⟨b8, 0, none⟩) ((List.replicate b.length true).map Value.bool) := by
      have := o9.sl
      simpa using this
    repeat (first | refine WL.nil ?_ | refine WL.auto (h := ?_) | refine WL.gskip rfl rfl rfl rfl ?_ | refine WL.gauto (h := ?_) | (refine CW.seq ?_; intro K hK) | refine CW.block ?_ | refine CW.region ?_ | refine CW.skip ?_ | refine CW.exit ?_ | refine CW.ret ?_ | (refine thn_ret (K := K) ?_; clear hK K) | refine thn_ret ?_ | refine blk_ret ?_ | (refine thn_exit (K := K) ?_; clear hK K) | refine thn_exit ?_ | refine blk_here ?_ | refine blk_past rfl ?_ | refine thn_norm ?_ | refine blk_norm ?_ | refine CW.condT rfl ?_ | refine CW.condF rfl ?_ | (refine hK _ _ ?_; clear hK K))
    first | refine WL.step rfl ?_ | refine WL.gstep rfl rfl rfl rfl ?_
    have hcr := crashHD h9 (some ⟨b8, 0, none⟩) b.length (List.replicate b.length true) (by simp) hfl k9 (by simp; omega) (by simp)
    rw [List.length_replicate] at hcr
    refine OpW.call (hcr.mono ?_) rfl
    rintro v w10 ⟨g10, OA2, cap2, col2, rfl, o10⟩
    have hall := crashFile_all (f := ⟨[120], a ++ b, a.length⟩) (by simp)
    rw [show (⟨[120], a ++ b, a.length⟩ : PF).data.length - (⟨[120], a ++ b, a.length⟩ : PF).safe = b.length from by simp] at hall
    rw [show (crashAll [⟨[120], a ++ b, a.length⟩] (List.replicate b.length true)).1 = [([120], (crashFile ⟨[120], a ++ b, a.length⟩ (List.replicate b.length true)).1)] from rfl, hall] at o10 ⊢
    obtain ⟨cells2, DA2, p1, p2, p3, p4, p5, p6⟩ := o10.at_ (i := 0) (x := ([120], a ++ b)) rfl
    simp only at p4 p5 p6
    have h10 := h9.grow g10
    repeat (first | refine WL.nil ?_ | refine WL.auto (h := ?_) | refine WL.gskip rfl rfl rfl rfl ?_ | refine WL.gauto (h := ?_) | (refine CW.seq ?_; intro K hK) | refine CW.block ?_ | refine CW.region ?_ | refine CW.skip ?_ | refine CW.exit ?_ | refine CW.ret ?_ | (refine thn_ret (K := K) ?_; clear hK K) | refine thn_ret ?_ | refine blk_ret ?_ | (refine thn_exit (K := K) ?_; clear hK K) | refine thn_exit ?_ | refine blk_here ?_ | refine blk_past rfl ?_ | refine thn_norm ?_ | refine blk_norm ?_ | refine CW.condT rfl ?_ | refine CW.condF rfl ?_ | (refine hK _ _ ?_; clear hK K))
    first | refine WL.step rfl ?_ | refine WL.gstep rfl rfl rfl rfl ?_
    refine OpW.call ((readHD h10 [120] (by simp) (fun f hf => (hfl f hf).1)).mono ?_) rfl
    rintro v w11 ⟨g11, A11, c11, rfl, o11⟩
    rw [show (PD.read ⟨[⟨[120], a ++ b, a.length⟩], false, 0⟩ [120]) = (a ++ b, 0) from rfl] at o11 ⊢
    simp only at o11
    replace p1 := p1.grow g11
    replace p6 := p6.grow g11
    have h11 := h10.grow g11
    repeat (first | refine WL.nil ?_ | refine WL.auto (h := ?_) | refine WL.gskip rfl rfl rfl rfl ?_ | refine WL.gauto (h := ?_) | (refine CW.seq ?_; intro K hK) | refine CW.block ?_ | refine CW.region ?_ | refine CW.skip ?_ | refine CW.exit ?_ | refine CW.ret ?_ | (refine thn_ret (K := K) ?_; clear hK K) | refine thn_ret ?_ | refine blk_ret ?_ | (refine thn_exit (K := K) ?_; clear hK K) | refine thn_exit ?_ | refine blk_here ?_ | refine blk_past rfl ?_ | refine thn_norm ?_ | refine blk_norm ?_ | refine CW.condT rfl ?_ | refine CW.condF rfl ?_ | (refine hK _ _ ?_; clear hK K))
    refine CW.quiet rfl (by kernel_rfl) ?_
    repeat (first | refine QL.nil ?_ | refine QL.auto (hn := ?_) | refine QL.gskip rfl rfl rfl rfl ?_ | refine QL.gauto (hn := ?_))
    refine QL.gstep rfl rfl rfl rfl rfl (fun w hg => OpW.indexAddr 0 rfl rfl rfl (by simp) p2 p3 ⟨rfl, rfl⟩) ?_
    have p1' : ∀ w, Grow w11 w → Sl w OA2 cells2 := fun w hg => p1.grow hg
    repeat (first | refine QL.nil ?_ | refine QL.auto (hn := ?_) | refine QL.gskip rfl rfl rfl rfl ?_ | refine QL.gauto (hn := ?_))
    refine QL.gstep rfl rfl rfl rfl rfl (fun w hg => OpW.toStr rfl (p6.sl.grow hg) rfl ⟨rfl, rfl⟩) ?_
    repeat (first | refine QL.nil ?_ | refine QL.auto (hn := ?_) | refine QL.gskip rfl rfl rfl rfl ?_ | refine QL.gauto (hn := ?_))
    refine QL.gstep rfl rfl rfl rfl rfl (fun w hg => OpW.toStr rfl (o11.sl.grow hg) rfl ⟨rfl, rfl⟩) ?_
    repeat (first | refine QL.nil ?_ | refine QL.auto (hn := ?_) | refine QL.gskip rfl rfl rfl rfl ?_ | refine QL.gauto (hn := ?_))
    rw [show decide (a ++ b = a ++ b) = true from by simp]
    repeat (first | refine QL.nil ?_ | refine QL.auto (hn := ?_) | refine QL.gskip rfl rfl rfl rfl ?_ | refine QL.gauto (hn := ?_))
    refine QL.gstep rfl rfl rfl rfl rfl (fun w hg => OpW.toStr rfl (o11.sl.grow hg) rfl ⟨rfl, rfl⟩) ?_
    repeat (first | refine QL.nil ?_ | refine QL.auto (hn := ?_) | refine QL.gskip rfl rfl rfl rfl ?_ | refine QL.gauto (hn := ?_))
    refine QL.gstep rfl rfl rfl rfl rfl (fun w hg => OpW.toStr rfl (((ha.grow g1).grow h11.g).grow hg) rfl ⟨rfl, rfl⟩) ?_
    repeat (first | refine QL.nil ?_ | refine QL.auto (hn := ?_) | refine QL.gskip rfl rfl rfl rfl ?_ | refine QL.gauto (hn := ?_))
    refine QL.gstep rfl rfl rfl rfl rfl (fun w hg => OpW.toStr rfl (((hb.grow g1).grow h11.g).grow hg) rfl ⟨rfl, rfl⟩) ?_
    repeat (first | refine QL.nil ?_ | refine QL.auto (hn := ?_) | refine QL.gskip rfl rfl rfl rfl ?_ | refine QL.gauto (hn := ?_))
    rw [show decide (a ++ b = a ++ b) = true from by simp]
    repeat (first | refine QL.nil ?_ | refine QL.auto (hn := ?_) | refine QL.gskip rfl rfl rfl rfl ?_ | refine QL.gauto (hn := ?_))
    intro w12 g12
    repeat (first | refine WL.nil ?_ | refine WL.auto (h := ?_) | refine WL.gskip rfl rfl rfl rfl ?_ | refine WL.gauto (h := ?_) | (refine CW.seq ?_; intro K hK) | refine CW.block ?_ | refine CW.region ?_ | refine CW.skip ?_ | refine CW.exit ?_ | refine CW.ret ?_ | (refine thn_ret (K := K) ?_; clear hK K) | refine thn_ret ?_ | refine blk_ret ?_ | (refine thn_exit (K := K) ?_; clear hK K) | refine thn_exit ?_ | refine blk_here ?_ | refine blk_past rfl ?_ | refine thn_norm ?_ | refine blk_norm ?_ | refine CW.condT rfl ?_ | refine CW.condF rfl ?_ | (refine hK _ _ ?_; clear hK K))
    exact out1 (v := .bool true) Try.results8 rfl ⟨rfl, g1.then (h11.g.then g12)⟩ (Or.inr rfl)
end B
end Go.Proofs.Ytlofcomnhecgfaa
/- Plain: what a node finds again behind losses of power. -/
namespace Go.Proofs.Ytlofcomnhecgfaa
namespace B
set_option linter.unusedVariables false
set_option linter.unusedSimpArgs false
set_option maxRecDepth 4000

def fLog (l : List UInt8) (s : Nat) : PF := ⟨sLog, l, s⟩
def fMarks (m s : Nat) : PF := ⟨sMarks, List.replicate m 1, s⟩
/-- A disk on which so many records are sure, and it may be one more. -/
def KDisk (S : List (List UInt8)) (U : Option (List UInt8)) (d : PD) : Prop :=
  (S = [] ∧ d.files = []) ∨ (S = [] ∧ ∃ l s, d.files = [fLog l s] ∧ s ≤ l.length) ∨
    ∃ l s m sm, d.files = [fLog l s, fMarks m sm] ∧ s ≤ l.length ∧ enc S <+: l.take s ∧ S.length ≤ sm ∧ sm ≤ m ∧ (m = S.length ∨ ∃ r, U = some r ∧ m = S.length + 1 ∧ enc (S ++ [r]) <+: l.take s)
/-- The disk of a node at work. -/
def Live (S : List (List UInt8)) (d : PD) : Prop :=
  d.off = false ∧ ((S = [] ∧ d.files = []) ∨ (S = [] ∧ d.files = [fLog [] 0]) ∨ d.files = [fLog (enc S) (enc S).length, fMarks S.length S.length])
theorem Live.k {S : List (List UInt8)} {d : PD} (h : Live S d) (U : Option (List UInt8)) : KDisk S U d := by
  rcases h.2 with ⟨h1, h2⟩ | ⟨h1, h2⟩ | h2
  · exact Or.inl ⟨h1, h2⟩
  · exact Or.inr (Or.inl ⟨h1, [], 0, h2, Nat.le_refl _⟩)
  · exact Or.inr (Or.inr ⟨_, _, _, _, h2, Nat.le_refl _, by rw [List.take_length]; exact List.prefix_refl _, Nat.le_refl _, Nat.le_refl _, Or.inl rfl⟩)
theorem Live.arm {S : List (List UInt8)} {d : PD} (h : Live S d) (n : Int) : Live S (d.arm n) := by
  unfold PD.arm
  rw [if_neg (by rw [h.1]; simp)]
  exact h
theorem rep_snoc (n : Nat) : List.replicate n (1 : UInt8) ++ [1] = List.replicate (n + 1) 1 := List.replicate_succ'.symm

theorem begin_calm (fs : List PF) (k : Nat) : PD.begin ⟨fs, false, k + 2⟩ = (true, 0, ⟨fs, false, k + 1⟩) := by
  unfold PD.begin
  rw [if_neg (by simp), if_pos (by simp), if_neg (by simp)]
  rfl
theorem append_calm {fs fs' : List PF} {s b : List UInt8} (h : PD.append ⟨fs, false, 0⟩ s b = (0, ⟨fs', false, 0⟩)) (k : Nat) : PD.append ⟨fs, false, k + 2⟩ s b = (0, ⟨fs', false, k + 1⟩) := by
  have e : PD.begin ⟨fs, false, 0⟩ = (true, 0, ⟨fs, false, 0⟩) := rfl
  unfold PD.append at h ⊢
  rw [e] at h
  rw [begin_calm]
  simp only [if_true] at h ⊢
  have hx : PD.ix ⟨fs, false, k + 1⟩ s = PD.ix ⟨fs, false, 0⟩ s := rfl
  rw [hx]
  cases hi : PD.ix ⟨fs, false, 0⟩ s with
  | none =>
    rw [hi] at h
    simp only at h ⊢
    split at h
    · cases h
    · rename_i hc
      rw [if_neg hc]
      cases h
      rfl
  | some i =>
    rw [hi] at h
    simp only at h ⊢
    cases h
    rfl
theorem sync_calm {fs fs' : List PF} {s : List UInt8} (h : PD.sync ⟨fs, false, 0⟩ s = (0, ⟨fs', false, 0⟩)) (k : Nat) : PD.sync ⟨fs, false, k + 2⟩ s = (0, ⟨fs', false, k + 1⟩) := by
  have e : PD.begin ⟨fs, false, 0⟩ = (true, 0, ⟨fs, false, 0⟩) := rfl
  unfold PD.sync at h ⊢
  rw [e] at h
  rw [begin_calm]
  simp only [ne_eq, not_true_eq_false, if_false] at h ⊢
  have hx : PD.ix ⟨fs, false, k + 1⟩ s = PD.ix ⟨fs, false, 0⟩ s := rfl
  rw [hx]
  cases hi : PD.ix ⟨fs, false, 0⟩ s with
  | none => rw [hi] at h; cases h
  | some i =>
    rw [hi] at h
    simp only at h ⊢
    cases h
    rfl
theorem nput_calm {f0 f1 f2 f3 f4 : List PF} {r : List UInt8} (h1 : PD.append ⟨f0, false, 0⟩ sLog (beN r.length ++ r) = (0, ⟨f1, false, 0⟩)) (h2 : PD.sync ⟨f1, false, 0⟩ sLog = (0, ⟨f2, false, 0⟩))
    (h3 : PD.append ⟨f2, false, 0⟩ sMarks [1] = (0, ⟨f3, false, 0⟩)) (h4 : PD.sync ⟨f3, false, 0⟩ sMarks = (0, ⟨f4, false, 0⟩)) (k : Nat) : PD.nput ⟨f0, false, k + 5⟩ r = (0, ⟨f4, false, k + 1⟩) := by
  unfold PD.nput
  rw [append_calm h1 (k + 3)]
  simp only [ne_eq, not_true_eq_false, if_false]
  rw [sync_calm h2 (k + 2)]
  simp only [ne_eq, not_true_eq_false, if_false]
  rw [append_calm h3 (k + 1)]
  simp only [ne_eq, not_true_eq_false, if_false]
  rw [sync_calm h4 k]
set_option maxHeartbeats 2000000 in
/-- Put on the disk of a node at work. -/
theorem Live.put {S : List (List UInt8)} {d : PD} (h : Live S d) (r : List UInt8) :
    ((d.nput r).1 = 0 ∧ Live (S ++ [r]) (d.nput r).2) ∨ ((d.nput r).1 = 51 ∧ (d.nput r).2.off = true ∧ KDisk S (some r) (d.nput r).2) := by
  obtain ⟨files, off, armed⟩ := d
  obtain ⟨h1, h2⟩ := h
  simp only at h1 h2
  subst h1
  have hen : enc (S ++ [r]) = enc S ++ (beN r.length ++ r) := by rw [enc_append, enc_one]
  have hSl : (S ++ [r]).length = S.length + 1 := by simp
  rcases h2 with ⟨rfl, rfl⟩ | ⟨rfl, rfl⟩ | rfl
  · have e0 : enc ([] ++ [r]) = beN r.length ++ r := by rw [hen, enc_nil, List.nil_append]
    have lv : ∀ k, Live ([] ++ [r]) ⟨[⟨sLog, beN r.length ++ r, (beN r.length ++ r).length⟩, ⟨sMarks, [1], 1⟩], false, k⟩ := fun k =>
      ⟨rfl, Or.inr (Or.inr (by rw [e0]; rfl))⟩
    match armed with
    | 0 => exact Or.inl ⟨rfl, lv 0⟩
    | 1 => exact Or.inr ⟨rfl, rfl, Or.inr (Or.inl ⟨rfl, beN r.length ++ r, 0, rfl, Nat.zero_le _⟩)⟩
    | 2 => exact Or.inr ⟨rfl, rfl, Or.inr (Or.inl ⟨rfl, beN r.length ++ r, 0, rfl, Nat.zero_le _⟩)⟩
    | 3 => exact Or.inr ⟨rfl, rfl, Or.inr (Or.inr ⟨beN r.length ++ r, (beN r.length ++ r).length, 1, 0, rfl, Nat.le_refl _, List.nil_prefix, Nat.le_refl _, by decide, Or.inr ⟨r, rfl, rfl, by rw [List.take_length, e0]; exact List.prefix_refl _⟩⟩)⟩
    | 4 => exact Or.inr ⟨rfl, rfl, Or.inr (Or.inr ⟨beN r.length ++ r, (beN r.length ++ r).length, 1, 0, rfl, Nat.le_refl _, List.nil_prefix, Nat.le_refl _, by decide, Or.inr ⟨r, rfl, rfl, by rw [List.take_length, e0]; exact List.prefix_refl _⟩⟩)⟩
    | k + 5 => exact Or.inl (by rw [nput_calm rfl rfl rfl rfl k]; exact ⟨rfl, lv (k + 1)⟩)
  · have e0 : enc ([] ++ [r]) = beN r.length ++ r := by rw [hen, enc_nil, List.nil_append]
    have lv : ∀ k, Live ([] ++ [r]) ⟨[⟨sLog, [] ++ (beN r.length ++ r), ([] ++ (beN r.length ++ r)).length⟩, ⟨sMarks, [1], 1⟩], false, k⟩ := fun k =>
      ⟨rfl, Or.inr (Or.inr (by rw [e0]; rfl))⟩
    match armed with
    | 0 => exact Or.inl ⟨rfl, lv 0⟩
    | 1 => exact Or.inr ⟨rfl, rfl, Or.inr (Or.inl ⟨rfl, beN r.length ++ r, 0, rfl, Nat.zero_le _⟩)⟩
    | 2 => exact Or.inr ⟨rfl, rfl, Or.inr (Or.inl ⟨rfl, beN r.length ++ r, 0, rfl, Nat.zero_le _⟩)⟩
    | 3 => exact Or.inr ⟨rfl, rfl, Or.inr (Or.inr ⟨beN r.length ++ r, (beN r.length ++ r).length, 1, 0, rfl, Nat.le_refl _, List.nil_prefix, Nat.le_refl _, by decide, Or.inr ⟨r, rfl, rfl, by rw [List.take_length, e0]; exact List.prefix_refl _⟩⟩)⟩
    | 4 => exact Or.inr ⟨rfl, rfl, Or.inr (Or.inr ⟨beN r.length ++ r, (beN r.length ++ r).length, 1, 0, rfl, Nat.le_refl _, List.nil_prefix, Nat.le_refl _, by decide, Or.inr ⟨r, rfl, rfl, by rw [List.take_length, e0]; exact List.prefix_refl _⟩⟩)⟩
    | k + 5 => exact Or.inl (by rw [nput_calm rfl rfl rfl rfl k]; exact ⟨rfl, lv (k + 1)⟩)
  · have lv : ∀ k, Live (S ++ [r]) ⟨[⟨sLog, enc S ++ (beN r.length ++ r), (enc S ++ (beN r.length ++ r)).length⟩, ⟨sMarks, List.replicate S.length 1 ++ [1], (List.replicate S.length (1 : UInt8) ++ [1]).length⟩], false, k⟩ := fun k =>
      ⟨rfl, Or.inr (Or.inr (by rw [hen, hSl, rep_snoc, List.length_replicate]; rfl))⟩
    have l1 : (enc S).length ≤ (enc S ++ (beN r.length ++ r)).length := by rw [List.length_append]; omega
    have p1 : enc S <+: (enc S ++ (beN r.length ++ r)).take (enc S).length := by rw [List.take_left' rfl]; exact List.prefix_refl _
    have p2 : enc S <+: (enc S ++ (beN r.length ++ r)).take (enc S ++ (beN r.length ++ r)).length := by rw [List.take_length]; exact List.prefix_append _ _
    have p3 : enc (S ++ [r]) <+: (enc S ++ (beN r.length ++ r)).take (enc S ++ (beN r.length ++ r)).length := by rw [List.take_length, hen]; exact List.prefix_refl _
    have kd : ∀ k, KDisk S (some r) ⟨[⟨sLog, enc S ++ (beN r.length ++ r), (enc S ++ (beN r.length ++ r)).length⟩, ⟨sMarks, List.replicate S.length 1 ++ [1], S.length⟩], true, k⟩ := fun k =>
      Or.inr (Or.inr ⟨enc S ++ (beN r.length ++ r), (enc S ++ (beN r.length ++ r)).length, S.length + 1, S.length, by rw [rep_snoc]; rfl, Nat.le_refl _, p2, Nat.le_refl _, Nat.le_succ _, Or.inr ⟨r, rfl, rfl, p3⟩⟩)
    match armed with
    | 0 => exact Or.inl ⟨rfl, lv 0⟩
    | 1 => exact Or.inr ⟨rfl, rfl, Or.inr (Or.inr ⟨enc S ++ (beN r.length ++ r), (enc S).length, S.length, S.length, rfl, l1, p1, Nat.le_refl _, Nat.le_refl _, Or.inl rfl⟩)⟩
    | 2 => exact Or.inr ⟨rfl, rfl, Or.inr (Or.inr ⟨enc S ++ (beN r.length ++ r), (enc S).length, S.length, S.length, rfl, l1, p1, Nat.le_refl _, Nat.le_refl _, Or.inl rfl⟩)⟩
    | 3 => exact Or.inr ⟨rfl, rfl, kd 0⟩
    | 4 => exact Or.inr ⟨rfl, rfl, kd 0⟩
    | k + 5 => exact Or.inl (by rw [nput_calm rfl rfl rfl rfl k]; exact ⟨rfl, lv (k + 1)⟩)

/-- What a loss of power leaves, loaded anew: all of it safe. -/
def Whole (S : List (List UInt8)) (U : Option (List UInt8)) (d : PD) : Prop :=
  d.off = false ∧ ((S = [] ∧ d.files = []) ∨ (S = [] ∧ ∃ l, d.files = [fLog l l.length]) ∨
    ∃ R t, (R = S ∨ ∃ r, U = some r ∧ R = S ++ [r]) ∧ d.files = [fLog (enc R ++ t) (enc R ++ t).length, fMarks R.length R.length])
theorem crash_marks (m sm : Nat) (ks : List Bool) (h : sm ≤ m) (h1 : m ≤ sm + 1) : ∃ m', (crashFile (fMarks m sm) ks).1 = List.replicate m' 1 ∧ (m' = sm ∨ m' = m) := by
  have hl : (fMarks m sm).data.length = m := by simp [fMarks]
  by_cases e : m = sm
  · subst e
    refine ⟨m, ?_, Or.inl rfl⟩
    unfold crashFile
    rw [hl, show m - (fMarks m m).safe = 0 from Nat.sub_self m]
    simp [crashRun, fMarks]
  · obtain rfl : m = sm + 1 := by omega
    have hr : crashRun (fMarks (sm + 1) sm) ks 1 = crashStep (List.replicate sm 1, sm, ks) 1 := by
      have h2 := crashRun_step (f := fMarks (sm + 1) sm) (ks := ks) (k := 0) (by rw [hl]; show sm + 0 < sm + 1; omega)
      rw [show (0 : Nat) + 1 = 1 from rfl] at h2
      rw [h2]
      have h3 : crashRun (fMarks (sm + 1) sm) ks 0 = (List.replicate sm 1, sm, ks) := by simp [crashRun, fMarks]
      rw [h3]
      congr 1
      simp [fMarks]
    unfold crashFile
    rw [hl, show sm + 1 - (fMarks (sm + 1) sm).safe = 1 from by show sm + 1 - sm = 1; omega, hr]
    unfold crashStep
    simp only
    split
    · exact ⟨sm + 1, by simp only [List.length_replicate]; rw [rep_snoc, List.take_of_length_le (by simp)], Or.inr rfl⟩
    · exact ⟨sm, by simp only; rw [List.take_append_of_le_length (by simp), List.take_of_length_le (by simp)], Or.inl rfl⟩
    · exact ⟨sm, by simp only; rw [List.take_append_of_le_length (by simp), List.take_of_length_le (by simp)], Or.inl rfl⟩
theorem KDisk.crash {S : List (List UInt8)} {U : Option (List UInt8)} {d : PD} (h : KDisk S U d) (ks : List Bool) (n : Int) : Whole S U (PD.arm ⟨(crashAll d.files ks).1.map toPF, false, 0⟩ n) := by
  obtain ⟨files, off, armed⟩ := d
  unfold PD.arm
  rw [if_neg (by simp)]
  refine ⟨rfl, ?_⟩
  rcases h with ⟨rfl, h2⟩ | ⟨rfl, l, s, h2, h3⟩ | ⟨l, s, m, sm, h2, h3, h4, h5, h6, h7⟩
  · simp only at h2
    subst h2
    exact Or.inl ⟨rfl, rfl⟩
  · simp only at h2
    subst h2
    exact Or.inr (Or.inl ⟨rfl, (crashFile (fLog l s) ks).1, rfl⟩)
  · simp only at h2
    subst h2
    obtain ⟨q1, q2, q3⟩ := crashFile_mid (f := fLog l s) h3 ks
    have hm1 : m ≤ sm + 1 := by rcases h7 with h | ⟨r, _, h, _⟩ <;> omega
    obtain ⟨m', e1, e2⟩ := crash_marks m sm (crashFile (fLog l s) ks).2 h6 hm1
    have e3 : ((crashAll [fLog l s, fMarks m sm] ks).1.map toPF) = [fLog (crashFile (fLog l s) ks).1 (crashFile (fLog l s) ks).1.length, fMarks m' m'] := by
      show [toPF (sLog, (crashFile (fLog l s) ks).1), toPF (sMarks, (crashFile (fMarks m sm) (crashFile (fLog l s) ks).2).1)] = _
      rw [e1]
      simp [toPF, fLog, fMarks]
    have e4 : l.take s = (crashFile (fLog l s) ks).1.take s := q3.symm
    rw [e4] at h4
    rw [e4] at h7
    generalize (crashFile (fLog l s) ks).1 = l' at *
    have pre : ∀ R, enc R <+: l'.take s → ∃ t, l' = enc R ++ t := fun R hp => by
      obtain ⟨t, ht⟩ := hp.trans (List.take_prefix s l')
      exact ⟨t, ht.symm⟩
    refine Or.inr (Or.inr ?_)
    simp only [e3]
    by_cases hms : m' = S.length
    · obtain ⟨t, ht⟩ := pre S h4
      exact ⟨S, t, Or.inl rfl, by rw [← ht, hms]⟩
    · rcases h7 with h7 | ⟨r, hU, hmm, hp⟩
      · omega
      · obtain ⟨t, ht⟩ := pre (S ++ [r]) hp
        exact ⟨S ++ [r], t, Or.inr ⟨r, hU, rfl⟩, by rw [← ht]; simp only [List.length_append, List.length_cons, List.length_nil]; rw [show S.length + (0 + 1) = m' from by omega]⟩

theorem sync_log (l : List UInt8) (s : Nat) (rest : List PF) (armed : Nat) : ∃ a, PD.sync ⟨fLog l s :: rest, false, armed⟩ sLog = (0, ⟨fLog l l.length :: rest, false, a⟩) ∨ PD.sync ⟨fLog l s :: rest, false, armed⟩ sLog = (51, ⟨fLog l s :: rest, true, a⟩) := by
  match armed with
  | 0 => exact ⟨0, Or.inl rfl⟩
  | 1 => exact ⟨0, Or.inr rfl⟩
  | k + 2 => exact ⟨k + 1, Or.inl rfl⟩
theorem sync_marks (l : List UInt8) (s m : Nat) (armed : Nat) : ∃ a, PD.sync ⟨[fLog l s, fMarks m m], false, armed⟩ sMarks = (0, ⟨[fLog l s, fMarks m m], false, a⟩) ∨ PD.sync ⟨[fLog l s, fMarks m m], false, armed⟩ sMarks = (51, ⟨[fLog l s, fMarks m m], true, a⟩) := by
  have e : fMarks m (List.replicate m (1 : UInt8)).length = fMarks m m := by rw [List.length_replicate]
  match armed with
  | 0 =>
    refine ⟨0, Or.inl ?_⟩
    show ((0 : Int), (⟨[fLog l s, fMarks m (List.replicate m (1 : UInt8)).length], false, 0⟩ : PD)) = _
    rw [e]
  | 1 => exact ⟨0, Or.inr rfl⟩
  | k + 2 =>
    refine ⟨k + 1, Or.inl ?_⟩
    show ((0 : Int), (⟨[fLog l s, fMarks m (List.replicate m (1 : UInt8)).length], false, k + 1⟩ : PD)) = _
    rw [e]
theorem trunc_log (l : List UInt8) (s : Nat) (rest : List PF) (armed n : Nat) (hn : n ≤ l.length) : ∃ a, PD.truncate ⟨fLog l s :: rest, false, armed⟩ sLog n = (0, ⟨fLog (l.take n) (min s n) :: rest, false, a⟩) ∨ PD.truncate ⟨fLog l s :: rest, false, armed⟩ sLog n = (51, ⟨fLog l s :: rest, true, a⟩) := by
  have key : ∀ a, (if (n : Int) < 0 ∨ ((l.length : Nat) : Int) < (n : Int) then ((2 : Int), (⟨fLog l s :: rest, false, a⟩ : PD)) else (0, ⟨fLog (l.take (n : Int).toNat) (min s (n : Int).toNat) :: rest, false, a⟩)) = (0, ⟨fLog (l.take n) (min s n) :: rest, false, a⟩) := fun a => by
    rw [if_neg (by omega), Int.toNat_natCast]
  match armed with
  | 0 => exact ⟨0, Or.inl (key 0)⟩
  | 1 => exact ⟨0, Or.inr rfl⟩
  | k + 2 => exact ⟨k + 1, Or.inl (key (k + 1))⟩
theorem settle_log (l : List UInt8) (rest : List PF) (armed n : Nat) (hn : n ≤ l.length) :
    (∃ a, PD.settle ⟨fLog l l.length :: rest, false, armed⟩ sLog l.length n = (0, ⟨fLog (l.take n) (l.take n).length :: rest, false, a⟩)) ∨
    ∃ x a, (x = l ∨ x = l.take n) ∧ PD.settle ⟨fLog l l.length :: rest, false, armed⟩ sLog l.length n = (51, ⟨fLog x x.length :: rest, true, a⟩) := by
  unfold PD.settle
  by_cases h : n < l.length
  · rw [if_pos h]
    have hl : (l.take n).length = n := by simp; omega
    have hm : min l.length n = (l.take n).length := by omega
    obtain ⟨a, h1 | h1⟩ := trunc_log l l.length rest armed n hn
    · rw [h1, hm]
      simp only [ne_eq, not_true_eq_false, if_false]
      obtain ⟨a2, h2 | h2⟩ := sync_log (l.take n) (l.take n).length rest a
      · exact Or.inl ⟨a2, h2⟩
      · exact Or.inr ⟨_, a2, Or.inr rfl, h2⟩
    · rw [h1]
      exact Or.inr ⟨l, a, Or.inl rfl, by rw [if_pos (by simp)]⟩
  · rw [if_neg h]
    have ht : l.take n = l := List.take_of_length_le (by omega)
    rw [ht]
    obtain ⟨a, h1 | h1⟩ := sync_log l l.length rest armed
    · exact Or.inl ⟨a, h1⟩
    · exact Or.inr ⟨l, a, Or.inl rfl, h1⟩

/-- Open on what a loss of power left. -/
theorem Whole.open_ {S : List (List UInt8)} {U : Option (List UInt8)} {d : PD} (h : Whole S U d) (hS : ∀ r ∈ S, r.length < 18446744073709551616) (hU : ∀ r, U = some r → r.length < 18446744073709551616) :
    (∃ R d', d.nopen = (some R, 0, d') ∧ Live R d' ∧ (R = S ∨ ∃ r, U = some r ∧ R = S ++ [r])) ∨ ∃ d', d.nopen = (none, 51, d') ∧ d'.off = true ∧ KDisk S U d' := by
  obtain ⟨files, off, armed⟩ := d
  obtain ⟨h1, h2⟩ := h
  simp only at h1 h2
  subst h1
  rcases h2 with ⟨rfl, rfl⟩ | ⟨rfl, l, rfl⟩ | ⟨R, t, hR, rfl⟩
  · exact Or.inl ⟨[], _, rfl, ⟨rfl, Or.inl ⟨rfl, rfl⟩⟩, Or.inl rfl⟩
  · have r1 : PD.read1 ⟨[fLog l l.length], false, armed⟩ sMarks = ([], false, 0) := rfl
    have r2 : PD.read1 ⟨[fLog l l.length], false, armed⟩ sLog = (l, true, 0) := rfl
    have hc : cutN l 0 = some ([], l) := rfl
    have ho : ones [] = 0 := rfl
    have e1 : PD.settled ⟨[fLog l l.length], false, armed⟩ ([], false, 0) (l, true, 0) 0 l = PD.settle ⟨[fLog l l.length], false, armed⟩ sLog l.length 0 := by
      show PD.settle ⟨[fLog l l.length], false, armed⟩ sLog l.length (l.length - l.length) = _
      rw [Nat.sub_self]
    have e0 : PD.nopen ⟨[fLog l l.length], false, armed⟩ = if (PD.settle ⟨[fLog l l.length], false, armed⟩ sLog l.length 0).1 ≠ 0 then (none, (PD.settle ⟨[fLog l l.length], false, armed⟩ sLog l.length 0).1, (PD.settle ⟨[fLog l l.length], false, armed⟩ sLog l.length 0).2) else (some [], 0, (PD.settle ⟨[fLog l l.length], false, armed⟩ sLog l.length 0).2) := by
      unfold PD.nopen
      simp only [r1, r2, ho, hc, e1]
      rfl
    rw [e0]
    rcases settle_log l [] armed 0 (Nat.zero_le _) with ⟨a, h3⟩ | ⟨x, a, hx, h3⟩
    · rw [h3]
      refine Or.inl ⟨[], _, rfl, ⟨rfl, Or.inr (Or.inl ⟨rfl, rfl⟩)⟩, Or.inl rfl⟩
    · rw [h3]
      exact Or.inr ⟨_, rfl, rfl, Or.inr (Or.inl ⟨rfl, x, x.length, rfl, Nat.le_refl _⟩)⟩
  · have hRl : ∀ r ∈ R, r.length < 18446744073709551616 := by
      intro r hr
      rcases hR with rfl | ⟨u, hu, rfl⟩
      · exact hS r hr
      · rcases List.mem_append.1 hr with hr | hr
        · exact hS r hr
        · rw [List.mem_singleton.1 hr]; exact hU u hu
    have r1 : PD.read1 ⟨[fLog (enc R ++ t) (enc R ++ t).length, fMarks R.length R.length], false, armed⟩ sMarks = (List.replicate R.length 1, true, 0) := rfl
    have r2 : PD.read1 ⟨[fLog (enc R ++ t) (enc R ++ t).length, fMarks R.length R.length], false, armed⟩ sLog = (enc R ++ t, true, 0) := rfl
    have hc := cutN_all R t hRl
    have e1 : PD.settled1 ⟨[fLog (enc R ++ t) (enc R ++ t).length, fMarks R.length R.length], false, armed⟩ (List.replicate R.length 1, true, 0) R.length = PD.sync ⟨[fLog (enc R ++ t) (enc R ++ t).length, fMarks R.length R.length], false, armed⟩ sMarks := by
      unfold PD.settled1 PD.settle
      rw [if_pos rfl, if_neg (by simp)]
    have hlen : (enc R ++ t).length - t.length = (enc R).length := by simp
    have htake : (enc R ++ t).take (enc R).length = enc R := List.take_left' rfl
    have kd : ∀ x a, (x = enc R ++ t ∨ x = enc R) → KDisk S U ⟨[fLog x x.length, fMarks R.length R.length], true, a⟩ := fun x a hx => by
      have hp : enc R <+: x := by
        rcases hx with rfl | rfl
        · exact List.prefix_append _ _
        · exact List.prefix_refl _
      refine Or.inr (Or.inr ⟨x, x.length, R.length, R.length, rfl, Nat.le_refl _, ?_, ?_, Nat.le_refl _, ?_⟩)
      · rw [List.take_length]
        rcases hR with rfl | ⟨u, hu, rfl⟩
        · exact hp
        · rw [enc_append] at hp
          exact (List.prefix_append _ _).trans hp
      · rcases hR with rfl | ⟨u, hu, rfl⟩
        · exact Nat.le_refl _
        · simp
      · rcases hR with rfl | ⟨u, hu, rfl⟩
        · exact Or.inl rfl
        · exact Or.inr ⟨u, hu, by simp, by rw [List.take_length]; exact hp⟩
    have e0 : ∀ r : Int × PD, PD.settled ⟨[fLog (enc R ++ t) (enc R ++ t).length, fMarks R.length R.length], false, armed⟩ (List.replicate R.length 1, true, 0) (enc R ++ t, true, 0) R.length t = r → PD.nopen ⟨[fLog (enc R ++ t) (enc R ++ t).length, fMarks R.length R.length], false, armed⟩ = if r.1 ≠ 0 then (none, r.1, r.2) else (some R, 0, r.2) := by
      rintro r rfl
      unfold PD.nopen
      simp only [r1, r2, ones_rep, hc]
      rfl
    obtain ⟨a, h3 | h3⟩ := sync_marks (enc R ++ t) (enc R ++ t).length R.length armed
    · rcases settle_log (enc R ++ t) [fMarks R.length R.length] a (enc R).length (by simp) with ⟨a2, h4⟩ | ⟨x, a2, hx, h4⟩
      · rw [htake] at h4
        have h5 := e0 (0, ⟨[fLog (enc R) (enc R).length, fMarks R.length R.length], false, a2⟩) (by
          unfold PD.settled
          rw [e1, h3]
          unfold PD.settled2
          rw [if_pos ⟨rfl, rfl⟩]
          simp only
          rw [hlen]
          exact h4)
        rw [h5]
        exact Or.inl ⟨R, _, rfl, ⟨rfl, Or.inr (Or.inr rfl)⟩, hR⟩
      · rw [htake] at hx
        have h5 := e0 (51, ⟨[fLog x x.length, fMarks R.length R.length], true, a2⟩) (by
          unfold PD.settled
          rw [e1, h3]
          unfold PD.settled2
          rw [if_pos ⟨rfl, rfl⟩]
          simp only
          rw [hlen]
          exact h4)
        rw [h5]
        exact Or.inr ⟨_, rfl, rfl, kd x a2 hx⟩
    · have h5 := e0 (51, ⟨[fLog (enc R ++ t) (enc R ++ t).length, fMarks R.length R.length], true, a⟩) (by
        unfold PD.settled
        rw [e1, h3]
        unfold PD.settled2
        rw [if_neg (by simp)])
      rw [h5]
      exact Or.inr ⟨_, rfl, rfl, kd _ a (Or.inl rfl)⟩
end B
end Go.Proofs.Ytlofcomnhecgfaa
/- What a law keeps beside a disk and a node: rows that it owns, bytes. Sizes are bounded. -/
namespace Go.Proofs.Ytlofcomnhecgfaa
namespace B
attribute [local irreducible] OpW WL CW Ret Sl Blk thn blk outOf
set_option linter.unusedVariables false
set_option linter.unusedSimpArgs false
set_option maxRecDepth 4000

/-- Calls that change only X's blocks leave a disk; what is new becomes X's. -/
theorem One.wide {X : Nat → Prop} {w w' : World} {db : Nat} {d : PD} (h : One X w db d) (hc : Chg X w w') : One (fun k => X k ∨ w.heap.size ≤ k ∧ k < w'.heap.size) w' db d := by
  obtain ⟨tag, h1, h2⟩ := h
  obtain ⟨FA, fcap, fs, h3⟩ := h2.retag (tag' := fun k => if k < w.heap.size then tag k else .other) fun k hk => if_pos hk
  refine ⟨_, fun k hk => ?_, FA, fcap, fs, h3.keep hc fun b hb hx => ?_⟩
  · rcases hk with hk | hk
    · obtain ⟨q1, q2⟩ := h1 k hk
      exact ⟨Nat.lt_of_lt_of_le q1 hc.size, by show (if _ then _ else _) = _; rw [if_pos q1]; exact q2⟩
    · exact ⟨hk.2, by show (if _ then _ else _) = _; rw [if_neg (by omega)]⟩
  · obtain ⟨q1, q2⟩ := h1 b hx
    simp only [q1, if_true, q2] at hb
    cases hb
/-- Rows of bytes of the own, their blocks of one zone. -/
def RowsAt (w : World) (RA : Option Addr) (rcap : Nat) (rs : List (List UInt8)) (Z : Nat → Prop) : Prop :=
  ∃ (cells : List Value) (col : Nat → Nat), Own w RA 22 1 rs.length rcap cells (fun b => Z b ∧ col b = 0) ∧ ∀ (i : Nat) (r : List UInt8), rs[i]? = some r → ∃ DA c, cells[i]? = some (Value.slice DA r.length c) ∧ Own w DA 5 1 r.length c (bvs r) (fun b => Z b ∧ col b = i + 1)
section
variable {S Z Z' : Nat → Prop} {w w' w1 w2 w3 : World} {RA : Option Addr} {rcap lo hi : Nat} {rs : List (List UInt8)}
theorem RowsAt.keep (h : RowsAt w RA rcap rs Z) (hc : Chg S w w') (hn : ∀ b, Z b → ¬ S b) : RowsAt w' RA rcap rs Z := by
  obtain ⟨cells, col, h1, h2⟩ := h
  refine ⟨cells, col, h1.keep hc fun b hb => hn b hb.1, fun i r hr => ?_⟩
  obtain ⟨DA, c, h3, h4⟩ := h2 i r hr
  exact ⟨DA, c, h3, h4.keep hc fun b hb => hn b hb.1⟩
theorem RowsAt.zone (h : RowsAt w RA rcap rs Z) (hz : ∀ b, b < w.heap.size → Z b → Z' b) : RowsAt w RA rcap rs Z' := by
  obtain ⟨cells, col, h1, h2⟩ := h
  refine ⟨cells, col, h1.zone fun a ha => ⟨hz _ (h1.in_ ha).2 (h1.in_ ha).1.1, (h1.in_ ha).1.2⟩, fun i r hr => ?_⟩
  obtain ⟨DA, c, h3, h4⟩ := h2 i r hr
  exact ⟨DA, c, h3, h4.zone fun a ha => ⟨hz _ (h4.in_ ha).2 (h4.in_ ha).1.1, (h4.in_ ha).1.2⟩⟩
theorem RowsAt.nil (w : World) (Z : Nat → Prop) : RowsAt w none 0 [] Z := ⟨[], fun _ => 0, Own.nil _ _ _ _, fun i r hr => by simp at hr⟩
theorem RecRows.at_ (h : RecRows w RA rcap rs lo hi) : RowsAt w RA rcap rs (fun b => lo ≤ b ∧ b < hi) := by
  obtain ⟨cells, col, h1, h2⟩ := h
  refine ⟨cells, col, h1.mono fun b hb => ⟨⟨hb.1, hb.2.1⟩, hb.2.2⟩, fun i r hr => ?_⟩
  obtain ⟨DA, c, h3, h4⟩ := h2 i r hr
  exact ⟨DA, c, h3, h4.mono fun b hb => ⟨⟨hb.1, hb.2.1⟩, hb.2.2⟩⟩
/-- A row more: what is changed, and whose it is. -/
theorem RowsAt.snoc {cells : List Value} {col : Nat → Nat} {RA' A' : Option Addr} {rcap' c' : Nat} {r : List UInt8}
    (h1 : Own w RA 22 1 rs.length rcap cells (fun b => Z b ∧ col b = 0)) (h2 : ∀ (i : Nat) (r : List UInt8), rs[i]? = some r → ∃ DA c, cells[i]? = some (Value.slice DA r.length c) ∧ Own w DA 5 1 r.length c (bvs r) (fun b => Z b ∧ col b = i + 1))
    (g1 : Grow w w1) (oA : Own w1 A' 5 1 r.length c' (bvs r) (fresh w)) (g2 : Grow w1 w2)
    (o3 : Own w3 RA' 22 1 (rs.length + 1) rcap' (cells ++ [Value.slice A' r.length c']) (fun b => (∃ a, RA = some a ∧ a.block = b) ∨ w2.heap.size ≤ b)) (c3 : Chg (fun b => ∃ a, RA = some a ∧ a.block = b) w2 w3) : RowsAt w3 RA' rcap' (rs ++ [r]) (fun b => (Z b ∧ b < w.heap.size) ∨ w.heap.size ≤ b ∧ b < w3.heap.size) := by
  have z1 : w.heap.size ≤ w1.heap.size := g1.size
  have z2 : w1.heap.size ≤ w2.heap.size := g2.size
  have z3 : w2.heap.size ≤ w3.heap.size := c3.size
  have hcl : cells.length = rs.length := by have := h1.1; omega
  have ra : ∀ a, RA = some a → Z a.block ∧ a.block < w.heap.size ∧ col a.block = 0 := fun a ha => ⟨(h1.in_ ha).1.1, (h1.in_ ha).2, (h1.in_ ha).1.2⟩
  refine ⟨cells ++ [Value.slice A' r.length c'], fun b => if b < w.heap.size then col b else if b < w1.heap.size then rs.length + 1 else 0, ?_, fun i x hx => ?_⟩
  · simp only [List.length_append, List.length_cons, List.length_nil]
    refine o3.zone fun a ha => ?_
    have hin := o3.in_ ha
    rcases hin.1 with ⟨a', ha', e⟩ | hb
    · have q := ra a' ha'
      rw [e] at q
      exact ⟨Or.inl ⟨q.1, q.2.1⟩, by show (if _ then _ else _) = _; rw [if_pos q.2.1]; exact q.2.2⟩
    · exact ⟨Or.inr ⟨by omega, by omega⟩, by show (if _ then _ else _) = _; rw [if_neg (by omega), if_neg (by omega)]⟩
  · rcases Nat.lt_or_ge i rs.length with hi | hi
    · rw [List.getElem?_append_left hi] at hx
      obtain ⟨DA, c, h3, h4⟩ := h2 i x hx
      refine ⟨DA, c, by rw [List.getElem?_append_left (by omega)]; exact h3, ?_⟩
      have hne : ∀ b, Z b ∧ col b = i + 1 → ¬ ∃ a, RA = some a ∧ a.block = b := by
        rintro b hb ⟨a, ha, e⟩
        have q := ra a ha
        rw [e] at q
        have := hb.2
        omega
      refine (((h4.grow g1).grow g2).keep c3 hne).zone fun a ha => ?_
      have q := h4.in_ ha
      exact ⟨Or.inl ⟨q.1.1, q.2⟩, by show (if _ then _ else _) = _; rw [if_pos q.2]; exact q.1.2⟩
    · have hin : i = rs.length := by
        have := (List.getElem?_eq_some_iff.1 hx).1
        simp at this; omega
      subst hin
      rw [List.getElem?_append_right (Nat.le_refl _), Nat.sub_self] at hx
      simp only [List.getElem?_cons_zero, Option.some.injEq] at hx
      subst hx
      refine ⟨A', c', by rw [← hcl]; simp, ?_⟩
      have hne : ∀ b, fresh w b → ¬ ∃ a, RA = some a ∧ a.block = b := by
        rintro b hb ⟨a, ha, e⟩
        have q := ra a ha
        have hb' : w.heap.size ≤ b := hb
        omega
      refine ((oA.grow g2).keep c3 hne).zone fun a ha => ?_
      have q := oA.in_ ha
      have q1 : w.heap.size ≤ a.block := q.1
      exact ⟨Or.inr ⟨by omega, by omega⟩, by show (if _ then _ else _) = _; rw [if_neg (by omega), if_pos q.2]⟩
end

theorem Own.ne {w : World} {A : Option Addr} {E : TypeId} {k n cap nb : Nat} {xs : List Value} {Z : Nat → Prop} {cs : Array Value} {t : TypeId} (h : Own w A E k n cap xs Z) (hb : Blk w nb cs t) (ht : t ≠ E) : ∀ a, A = some a → a.block ≠ nb := by
  rintro a rfl e
  rcases h.2 with ⟨h1, _⟩ | ⟨g, cur, h1, _, h3, _⟩
  · cases h1
  · cases h1
    simp only at e
    subst e
    have hb' : w.heap[g]? = some (.cells cs t (0, 0)) := by unfold Blk at hb; exact hb
    rw [hb'] at h3
    cases h3
    exact ht rfl
theorem RowsAt.off {w : World} {RA : Option Addr} {rcap nb : Nat} {rs : List (List UInt8)} {Z : Nat → Prop} {cs : Array Value} {t : TypeId} (h : RowsAt w RA rcap rs Z) (hb : Blk w nb cs t) (h1 : t ≠ 22) (h2 : t ≠ 5) : RowsAt w RA rcap rs (fun b => Z b ∧ b ≠ nb) := by
  obtain ⟨cells, col, o, r⟩ := h
  refine ⟨cells, col, o.zone fun a ha => ⟨⟨(o.in_ ha).1.1, o.ne hb h1 a ha⟩, (o.in_ ha).1.2⟩, fun i x hx => ?_⟩
  obtain ⟨DA, c, h3, h4⟩ := r i x hx
  exact ⟨DA, c, h3, h4.zone fun a ha => ⟨⟨(h4.in_ ha).1.1, h4.ne hb h2 a ha⟩, (h4.in_ ha).1.2⟩⟩
theorem RowsAt.in_ {w : World} {RA : Option Addr} {rcap : Nat} {rs : List (List UInt8)} {Z : Nat → Prop} (h : RowsAt w RA rcap rs Z) : ∃ cells : List Value, Sl w RA cells ∧ cells.length = rs.length ∧ ∀ (i : Nat) (r : List UInt8), rs[i]? = some r → ∃ D c, cells[i]? = some (Value.slice D r.length c) ∧ Sl w D (bvs r) := by
  obtain ⟨cells, col, h1, h2⟩ := h
  refine ⟨cells, h1.sl, by have := h1.1; omega, fun i r hr => ?_⟩
  obtain ⟨D, c, q1, q2⟩ := h2 i r hr
  exact ⟨D, c, q1, q2.sl⟩
/-- The bytes that the first k steps put, the marks and numbers beside them. -/
def putSum7 (ops : List Op7) (k : Nat) : Nat := ((ops.take k).map fun o => o.b.length + 9).sum
theorem putSum7_succ {ops : List Op7} {k : Nat} (h : k < ops.length) : putSum7 ops (k + 1) = putSum7 ops k + ((ops[k]).b.length + 9) := by
  unfold putSum7
  rw [List.take_succ_eq_append_getElem h, List.map_append, List.sum_append]
  simp
theorem putSum7_le (ops : List Op7) (k : Nat) : putSum7 ops k ≤ (ops.map fun o => o.b.length + o.keep.length + 1).sum + 8 * ops.length := by
  unfold putSum7
  induction ops generalizing k with
  | nil => simp
  | cons o ops ih =>
    cases k with
    | zero => simp
    | succ k =>
      have := ih k
      simp only [List.take_succ_cons, List.map_cons, List.sum_cons, List.length_cons]
      omega
theorem op_sizes7 {ops : List Op7} {n : Nat} (h : (ops.map fun o => o.b.length + o.keep.length + 1).sum ≤ n) : ∀ o ∈ ops, o.b.length ≤ n ∧ o.keep.length ≤ n := by
  intro o ho
  have := le_sum' (fun o : Op7 => o.b.length + o.keep.length + 1) ho
  omega

/-- The rows that a law holds as sure, the bytes it holds as perhaps there. -/
structure Holds (W w : World) (X : Nat → Prop) (c : Nat → Nat) (S : List (List UInt8)) (RA : Option Addr) (rcap : Nat) (u : List UInt8) (UA : Option Addr) : Prop where
  base : ∀ b, b < W.heap.size → X b
  rows : RowsAt w RA rcap S (fun b => X b ∧ W.heap.size ≤ b ∧ c b = 0)
  last : Sl w UA (bvs u)
  lastX : u ≠ [] → ∀ a, UA = some a → X a.block ∧ W.heap.size ≤ a.block ∧ c a.block = 1
theorem Holds.step {W w w' : World} {X X' Sx : Nat → Prop} {c c' : Nat → Nat} {S : List (List UInt8)} {RA : Option Addr} {rcap : Nat} {u : List UInt8} {UA : Option Addr} (h : Holds W w X c S RA rcap u UA) (hc : Chg Sx w w') (hn : ∀ b, X b → W.heap.size ≤ b → c b ≤ 1 → ¬ Sx b) (hX : ∀ b, X b → X' b) (hcc : ∀ b, b < w.heap.size → c' b = c b) : Holds W w' X' c' S RA rcap u UA := by
  refine ⟨fun b hb => hX b (h.base b hb), (h.rows.zone (Z' := fun b => X' b ∧ W.heap.size ≤ b ∧ c' b = 0 ∧ X b ∧ c b ≤ 1) fun b hb hz => ⟨hX b hz.1, hz.2.1, by rw [hcc b hb]; exact hz.2.2, hz.1, by rw [hz.2.2]; omega⟩).keep hc (fun b hb => hn b hb.2.2.2.1 hb.2.1 hb.2.2.2.2) |>.zone fun b _ hz => ⟨hz.1, hz.2.1, hz.2.2.1⟩, h.last.keepN hc fun hne a ha => ?_, fun hne a ha => ?_⟩
  · have q := h.lastX (by intro e; rw [e] at hne; exact hne rfl) a ha
    exact hn _ q.1 q.2.1 (by omega)
  · have q := h.lastX hne a ha
    exact ⟨hX _ q.1, q.2.1, by rw [hcc _ (h.last.lt (ne_bvs hne) ha)]; exact q.2.2⟩
/-- The node of a law: none or sick behind a loss, or at work. -/
def NodeNow (W w : World) (X : Nat → Prop) (c : Nat → Nat) (np : Option Addr) (db : Nat) (d : PD) (S : List (List UInt8)) (under : Bool) (u : List UInt8) : Prop :=
  (d.off = true ∧ KDisk S (if under = true then some u else none) d ∧ (np = none ∨ ∃ nb n, np = some ⟨nb, 0, none⟩ ∧ IsNode w nb db n true ∧ X nb ∧ W.heap.size ≤ nb ∧ c nb = 2)) ∨
  (Live S d ∧ under = false ∧ ∃ nb, np = some ⟨nb, 0, none⟩ ∧ IsNode w nb db S.length false ∧ X nb ∧ W.heap.size ≤ nb ∧ c nb = 2)
theorem NodeNow.step {W w w' : World} {X X' Sx : Nat → Prop} {c c' : Nat → Nat} {np : Option Addr} {db : Nat} {d : PD} {S : List (List UInt8)} {under : Bool} {u : List UInt8} (h : NodeNow W w X c np db d S under u) (hc : Chg Sx w w') (hn : ∀ b, X b → W.heap.size ≤ b → c b = 2 → ¬ Sx b) (hX : ∀ b, X b → X' b) (hcc : ∀ b, b < w.heap.size → c' b = c b) : NodeNow W w' X' c' np db d S under u := by
  rcases h with ⟨h1, h2, h3⟩ | ⟨h1, h2, nb, h3, h4, h5, h6, h7⟩
  · refine Or.inl ⟨h1, h2, h3.imp id ?_⟩
    rintro ⟨nb, n, h3, h4, h5, h6, h7⟩
    exact ⟨nb, n, h3, Blk.keep h4 hc (hn nb h5 h6 h7), hX nb h5, h6, by rw [hcc nb (Blk.lt h4)]; exact h7⟩
  · exact Or.inr ⟨h1, h2, nb, h3, Blk.keep h4 hc (hn nb h5 h6 h7), hX nb h5, h6, by rw [hcc nb (Blk.lt h4)]; exact h7⟩
theorem NodeNow.k {W w : World} {X : Nat → Prop} {c : Nat → Nat} {np : Option Addr} {db : Nat} {d : PD} {S : List (List UInt8)} {under : Bool} {u : List UInt8} (h : NodeNow W w X c np db d S under u) : KDisk S (if under = true then some u else none) d := by
  rcases h with ⟨h1, h2, h3⟩ | ⟨h1, h2, h3⟩
  · exact h2
  · exact h1.k _
end B
end Go.Proofs.Ytlofcomnhecgfaa
/- The walk of isthmuslaw07.NodeLives: it is true. Sizes are bounded. -/
namespace Go.Proofs.Ytlofcomnhecgfaa
namespace B
attribute [local irreducible] OpW WL CW Ret Sl Blk thn blk outOf
set_option linter.unusedVariables false
set_option linter.unusedSimpArgs false
set_option maxRecDepth 4000

/-- Two disks that read alike, and their nodes: none, or two that count alike. -/
def Lives (W w : World) (n db mb : Nat) (d : PD) (np mp : Option Addr) : Prop := ∃ X : Nat → Prop, Two X w db d mb d ∧ (∀ b, b < W.heap.size → X b) ∧ Grow W w ∧ ((np = none ∧ mp = none) ∨ ∃ (nb nbm c : Nat) (s : Bool), np = some ⟨nb, 0, none⟩ ∧ mp = some ⟨nbm, 0, none⟩ ∧ IsNode w nb db c s ∧ IsNodeM w nbm mb c s ∧ X nb ∧ X nbm ∧ W.heap.size ≤ nb ∧ W.heap.size ≤ nbm ∧ c ≤ n)
theorem Lives.le {W w : World} {n n' db mb : Nat} {d : PD} {np mp : Option Addr} (h : Lives W w n db mb d np mp) (hn : n ≤ n') : Lives W w n' db mb d np mp := by
  obtain ⟨X, h1, h2, h3, h4⟩ := h
  refine ⟨X, h1, h2, h3, h4.imp id ?_⟩
  rintro ⟨nb, nbm, c, s, y1, y2, y3, y4, y5, y6, y7, y8, y9⟩
  exact ⟨nb, nbm, c, s, y1, y2, y3, y4, y5, y6, y7, y8, Nat.le_trans y9 hn⟩
set_option maxHeartbeats 8000000 in
theorem nlives20 (A : Option Addr) (cap : Nat) (xs : List (List UInt8 × List UInt8)) (Z : Nat → Prop) (v1 : Value) (ops : List Op7) (W : World) (hx : FilesIn W A xs Z) (ho : InStructs W v1 4 (IsOp7 W) ops) (hl : xs.length ≤ 1048576) (hs : ∀ x ∈ xs, x.1.length ≤ 1048576 ∧ x.2.length ≤ 1048576)
    (hol : ops.length ≤ 1048576) (hos : (ops.map fun o => o.b.length + o.keep.length + 1).sum ≤ 1048576) :
    Ret Try.prog 20 #[.slice A xs.length cap, v1] W fun v w' => v = .bool true ∧ Grow W w' := by
  have hs' : ∀ x ∈ xs, x.1.length ≤ 1099511627776 ∧ x.2.length ≤ 1099511627776 := fun x hx => by have := hs x hx; omega
  have hosz := op_sizes7 hos
  obtain ⟨OA, ocap, cs, rfl, hcap, hcm, hcl, hso, hoe⟩ := ho
  refine Ret.enter (fn := Try.f20) (N := 194) Try.func20 rfl Try.ntmps20 rfl ?_
  repeat (first | refine WL.nil ?_ | refine WL.auto (h := ?_) | refine WL.gskip rfl rfl rfl rfl ?_ | refine WL.gauto (h := ?_) | (refine CW.seq ?_; intro K hK) | refine CW.block ?_ | refine CW.region ?_ | refine CW.skip ?_ | refine CW.exit ?_ | refine CW.ret ?_ | (refine thn_ret (K := K) ?_; clear hK K) | refine thn_ret ?_ | refine blk_ret ?_ | (refine thn_exit (K := K) ?_; clear hK K) | refine thn_exit ?_ | refine blk_here ?_ | refine blk_past rfl ?_ | refine thn_norm ?_ | refine blk_norm ?_ | refine CW.condT rfl ?_ | refine CW.condF rfl ?_ | (refine hK _ _ ?_; clear hK K))
  first | refine WL.step rfl ?_ | refine WL.gstep rfl rfl rfl rfl ?_
  refine OpW.call ((fixed60 _).mono ?_) rfl
  rintro v wf ⟨rfl, gf⟩
  repeat (first | refine WL.nil ?_ | refine WL.auto (h := ?_) | refine WL.gskip rfl rfl rfl rfl ?_ | refine WL.gauto (h := ?_) | (refine CW.seq ?_; intro K hK) | refine CW.block ?_ | refine CW.region ?_ | refine CW.skip ?_ | refine CW.exit ?_ | refine CW.ret ?_ | (refine thn_ret (K := K) ?_; clear hK K) | refine thn_ret ?_ | refine blk_ret ?_ | (refine thn_exit (K := K) ?_; clear hK K) | refine thn_exit ?_ | refine blk_here ?_ | refine blk_past rfl ?_ | refine thn_norm ?_ | refine blk_norm ?_ | refine CW.condT rfl ?_ | refine CW.condF rfl ?_ | (refine hK _ _ ?_; clear hK K))
  first | refine WL.step rfl ?_ | refine WL.gstep rfl rfl rfl rfl ?_
  refine OpW.call ((loadOne (X := fun k => k < W.heap.size) (fun _ h => Nat.lt_of_lt_of_le h gf.size) A cap xs Z (hx.grow gf) (by omega) hs').mono ?_) rfl
  rintro v w1 ⟨g1, hnone, hsome⟩
  cases hg : loadGo [] xs with
  | none =>
    obtain rfl := hnone hg
    repeat (first | refine WL.nil ?_ | refine WL.auto (h := ?_) | refine WL.gskip rfl rfl rfl rfl ?_ | refine WL.gauto (h := ?_) | (refine CW.seq ?_; intro K hK) | refine CW.block ?_ | refine CW.region ?_ | refine CW.skip ?_ | refine CW.exit ?_ | refine CW.ret ?_ | (refine thn_ret (K := K) ?_; clear hK K) | refine thn_ret ?_ | refine blk_ret ?_ | (refine thn_exit (K := K) ?_; clear hK K) | refine thn_exit ?_ | refine blk_here ?_ | refine blk_past rfl ?_ | refine thn_norm ?_ | refine blk_norm ?_ | refine CW.condT rfl ?_ | refine CW.condF rfl ?_ | (refine hK _ _ ?_; clear hK K))
    first | refine WL.step rfl ?_ | refine WL.gstep rfl rfl rfl rfl ?_
    refine OpW.call ((loadRefNone A cap xs Z (hx.grow (gf.then g1)) (by omega) hs' hg).mono ?_) rfl
    rintro v w2 ⟨g2, mb, rfl⟩
    repeat (first | refine WL.nil ?_ | refine WL.auto (h := ?_) | refine WL.gskip rfl rfl rfl rfl ?_ | refine WL.gskipU rfl rfl rfl rfl ?_ | refine WL.gauto (h := ?_) | (refine CW.seq ?_; intro K hK) | refine CW.block ?_ | refine CW.region ?_ | refine CW.skip ?_ | refine CW.exit ?_ | refine CW.ret ?_ | (refine thn_ret (K := K) ?_; clear hK K) | refine thn_ret ?_ | refine blk_ret ?_ | (refine thn_exit (K := K) ?_; clear hK K) | refine thn_exit ?_ | refine blk_here ?_ | refine blk_past rfl ?_ | refine thn_norm ?_ | refine blk_norm ?_ | refine CW.condT rfl ?_ | refine CW.condF rfl ?_ | (refine hK _ _ ?_; clear hK K))
    exact out1 (v := .bool true) Try.results20 rfl ⟨rfl, gf.then (g1.then g2)⟩ (Or.inr rfl)
  | some l =>
    obtain ⟨db, rfl, h1⟩ := hsome l hg
    obtain ⟨rfl, hf⟩ := load_fit hg hs
    repeat (first | refine WL.nil ?_ | refine WL.auto (h := ?_) | refine WL.gskip rfl rfl rfl rfl ?_ | refine WL.gauto (h := ?_) | (refine CW.seq ?_; intro K hK) | refine CW.block ?_ | refine CW.region ?_ | refine CW.skip ?_ | refine CW.exit ?_ | refine CW.ret ?_ | (refine thn_ret (K := K) ?_; clear hK K) | refine thn_ret ?_ | refine blk_ret ?_ | (refine thn_exit (K := K) ?_; clear hK K) | refine thn_exit ?_ | refine blk_here ?_ | refine blk_past rfl ?_ | refine thn_norm ?_ | refine blk_norm ?_ | refine CW.condT rfl ?_ | refine CW.condF rfl ?_ | (refine hK _ _ ?_; clear hK K))
    first | refine WL.step rfl ?_ | refine WL.gstep rfl rfl rfl rfl ?_
    refine OpW.call ((loadRef h1 A cap xs Z (hx.grow (gf.then g1)) (by omega) hs').mono ?_) rfl
    rintro v w2 ⟨g2, _, hR⟩
    obtain ⟨mb, rfl, h2⟩ := hR _ hg
    have gW3 := gf.then (g1.then g2)
    clear hR hnone hsome hg h1
    generalize (⟨xs.map toPF, false, 0⟩ : PD) = d at *
    obtain ⟨k, hk0⟩ : ∃ k, k = 0 := ⟨0, rfl⟩
    have h0 := h2
    have hf0 := hf
    have gW0 := gW3
    have base0 : ∀ b, b < W.heap.size → (fun k => k < W.heap.size) b := fun b hb => hb
    generalize (fun k => k < W.heap.size) = X0 at *
    generalize hd0 : d = d0 at *
    (
  repeat (first | refine WL.nil ?_ | refine WL.auto (h := ?_) | refine WL.gskip rfl rfl rfl rfl ?_ | refine WL.gskipU rfl rfl rfl rfl ?_ | refine WL.gauto (h := ?_) | (refine CW.seq ?_; intro K hK) | refine CW.block ?_ | refine CW.region ?_ | refine CW.skip ?_ | refine CW.exit ?_ | refine CW.ret ?_ | (refine thn_ret (K := K) ?_; clear hK K) | refine thn_ret ?_ | refine blk_ret ?_ | (refine thn_exit (K := K) ?_; clear hK K) | refine thn_exit ?_ | refine blk_here ?_ | refine blk_past rfl ?_ | refine thn_norm ?_ | refine blk_norm ?_ | refine CW.condT rfl ?_ | refine CW.condF rfl ?_ | (refine hK _ _ ?_; clear hK K))
  first | refine WL.step rfl ?_ | refine WL.gstep rfl rfl rfl rfl ?_
  refine OpW.call ((openP61 h0 hf0 (by omega)).mono ?_) rfl
  rintro v w41 ⟨Z4, np4, RA4, rc4, rfl, y1, h41, c41, hr41, hn41⟩
  have gW41 := base_grow base0 gW0 c41
  have base1 : ∀ b, b < W.heap.size → X0 b ∨ Z4 b := fun b hb => Or.inl (base0 b hb)
  repeat (first | refine WL.nil ?_ | refine WL.auto (h := ?_) | refine WL.gskip rfl rfl rfl rfl ?_ | refine WL.gskipU rfl rfl rfl rfl ?_ | refine WL.gauto (h := ?_) | (refine CW.seq ?_; intro K hK) | refine CW.block ?_ | refine CW.region ?_ | refine CW.skip ?_ | refine CW.exit ?_ | refine CW.ret ?_ | (refine thn_ret (K := K) ?_; clear hK K) | refine thn_ret ?_ | refine blk_ret ?_ | (refine thn_exit (K := K) ?_; clear hK K) | refine thn_exit ?_ | refine blk_here ?_ | refine blk_past rfl ?_ | refine thn_norm ?_ | refine blk_norm ?_ | refine CW.condT rfl ?_ | refine CW.condF rfl ?_ | (refine hK _ _ ?_; clear hK K))
  first | refine WL.step rfl ?_ | refine WL.gstep rfl rfl rfl rfl ?_
  refine OpW.call ((openP65 h41 hf0 (by omega)).mono ?_) rfl
  rintro v w51 ⟨Z5, np5, RA5, rc5, rfl, x1, h51, c51, hr51, hn51⟩
  have gW51 := base_grow base1 gW41 c51
  have hfn := hf0.nopen
  have hfl := found_len hf0
  have zz0 : W.heap.size ≤ w41.heap.size := gW41.size
  repeat (first | refine WL.nil ?_ | refine WL.auto (h := ?_) | refine WL.gskip rfl rfl rfl rfl ?_ | refine WL.gskipU rfl rfl rfl rfl ?_ | refine WL.gauto (h := ?_) | (refine CW.seq ?_; intro K hK) | refine CW.block ?_ | refine CW.region ?_ | refine CW.skip ?_ | refine CW.exit ?_ | refine CW.ret ?_ | (refine thn_ret (K := K) ?_; clear hK K) | refine thn_ret ?_ | refine blk_ret ?_ | (refine thn_exit (K := K) ?_; clear hK K) | refine thn_exit ?_ | refine blk_here ?_ | refine blk_past rfl ?_ | refine thn_norm ?_ | refine blk_norm ?_ | refine CW.condT rfl ?_ | refine CW.condF rfl ?_ | (refine hK _ _ ?_; clear hK K))
  rw [show decide (¬ d0.nopen.2.1 = d0.nopen.2.1) = false from by simp]
  repeat (first | refine WL.nil ?_ | refine WL.auto (h := ?_) | refine WL.gskip rfl rfl rfl rfl ?_ | refine WL.gskipU rfl rfl rfl rfl ?_ | refine WL.gauto (h := ?_) | (refine CW.seq ?_; intro K hK) | refine CW.block ?_ | refine CW.region ?_ | refine CW.skip ?_ | refine CW.exit ?_ | refine CW.ret ?_ | (refine thn_ret (K := K) ?_; clear hK K) | refine thn_ret ?_ | refine blk_ret ?_ | (refine thn_exit (K := K) ?_; clear hK K) | refine thn_exit ?_ | refine blk_here ?_ | refine blk_past rfl ?_ | refine thn_norm ?_ | refine blk_norm ?_ | refine CW.condT rfl ?_ | refine CW.condF rfl ?_ | (refine hK _ _ ?_; clear hK K))
  first | refine WL.step rfl ?_ | refine WL.gstep rfl rfl rfl rfl ?_
  refine OpW.call ((same66 (hr41 _ c51) (hr51 _ (Chg.refl _ _)) (by omega)).mono ?_) rfl
  rintro v w61 ⟨rfl, g61⟩
  rw [decide_eq_true (p := found d0 = found d0) rfl]
  have hnn : np4.isNone = np5.isNone := by
    rcases hn41 with ⟨q1, q2⟩ | ⟨q1, nb, q2, _⟩ <;> rcases hn51 with ⟨q3, q4⟩ | ⟨q3, nb', q4, _⟩ <;> first | (rw [q2, q4]; done) | (rw [q2, q4]; rfl) | (rw [q1] at q3; cases q3)
  have hL : Lives W w61 (20000000 + k) db mb d0.nopen.2.2 np4 np5 := ⟨_, h51.grow g61, fun b hb => Or.inl (base1 b hb), gW51.then g61, by
    rcases hn41 with ⟨q1, q2⟩ | ⟨q1, nb, q2, q5, q6⟩
    · rcases hn51 with ⟨q3, q4⟩ | ⟨q3, nb', q4, _⟩
      · exact Or.inl ⟨q2, q4⟩
      · rw [q1] at q3; cases q3
    · rcases hn51 with ⟨q3, q4⟩ | ⟨q3, nb', q4, q7, q8⟩
      · rw [q1] at q3; cases q3
      · exact Or.inr ⟨nb, nb', (found d0).length, false, q2, q4, Blk.grow (Blk.keep q5 c51 fun h => h (Or.inr q6)) g61, Blk.grow q7 g61, Or.inl (Or.inr q6), Or.inr q8, Nat.le_trans gW0.size (y1 nb q6), Nat.le_trans zz0 (x1 nb' q8), by omega⟩⟩
  repeat (first | refine WL.nil ?_ | refine WL.auto (h := ?_) | refine WL.gskip rfl rfl rfl rfl ?_ | refine WL.gskipU rfl rfl rfl rfl ?_ | refine WL.gauto (h := ?_) | (refine CW.seq ?_; intro K hK) | refine CW.block ?_ | refine CW.region ?_ | refine CW.skip ?_ | refine CW.exit ?_ | refine CW.ret ?_ | (refine thn_ret (K := K) ?_; clear hK K) | refine thn_ret ?_ | refine blk_ret ?_ | (refine thn_exit (K := K) ?_; clear hK K) | refine thn_exit ?_ | refine blk_here ?_ | refine blk_past rfl ?_ | refine thn_norm ?_ | refine blk_norm ?_ | refine CW.condT rfl ?_ | refine CW.condF rfl ?_ | (refine hK _ _ ?_; clear hK K))
  rw [show (!(np4.isNone == np5.isNone)) = false from by rw [hnn]; simp]
  repeat (first | refine WL.nil ?_ | refine WL.auto (h := ?_) | refine WL.gskip rfl rfl rfl rfl ?_ | refine WL.gskipU rfl rfl rfl rfl ?_ | refine WL.gauto (h := ?_) | (refine CW.seq ?_; intro K hK) | refine CW.block ?_ | refine CW.region ?_ | refine CW.skip ?_ | refine CW.exit ?_ | refine CW.ret ?_ | (refine thn_ret (K := K) ?_; clear hK K) | refine thn_ret ?_ | refine blk_ret ?_ | (refine thn_exit (K := K) ?_; clear hK K) | refine thn_exit ?_ | refine blk_here ?_ | refine blk_past rfl ?_ | refine thn_norm ?_ | refine blk_norm ?_ | refine CW.condT rfl ?_ | refine CW.condF rfl ?_ | (refine hK _ _ ?_; clear hK K)))
    subst hk0
    generalize d0.nopen.2.2 = d3 at *
    generalize np4 = np at *
    generalize np5 = mp at *
    have hf3 := hfn
    · skip
      refine CW.loop (fun n' e w4 => ∃ (k db mb : Nat) (d : PD) (np mp : Option Addr), k ≤ ops.length ∧ n' = ops.length - k ∧ Fit d (1048576 + putSum7 ops k) ∧ Lives W w4 (20000000 + k) db mb d np mp ∧
        ∃ e0, e = upd (upd (upd (upd (upd (upd (upd e0 5 (.pointer (some ⟨db, 0, none⟩))) 7 (.pointer (some ⟨mb, 0, none⟩))) 9 (.pointer np)) 11 (.pointer mp)) 69 (.slice OA ops.length ocap)) 70 (.int .i64 ops.length)) 71 (.int .i64 k)) ops.length ?_ ?_
      · exact ⟨0, db, mb, d3, np, mp, by omega, rfl, hf3.le (by omega), hL, rep7 rfl rfl rfl rfl rfl rfl rfl⟩
      clear hf3 hL hf gW3 gW0 h0 hf0 base0 hfn hfl h41 h51 hr41 hr51 hn41 hn51 hnn base1 c41 c51 y1 x1 gW41 gW51 zz0 g61 h2
      rintro n' e w4 ⟨k, db, mb, d, np, mp, hk, rfl, hf, hL, e0, rfl⟩ KJ hJ
      have hpk := putSum7_le ops k
      repeat (first | refine WL.nil ?_ | refine WL.auto (h := ?_) | refine WL.gskip rfl rfl rfl rfl ?_ | refine WL.gauto (h := ?_) | (refine CW.seq ?_; intro K hK) | refine CW.block ?_ | refine CW.region ?_ | refine CW.skip ?_ | refine CW.exit ?_ | refine CW.ret ?_ | (refine thn_ret (K := K) ?_; clear hK K) | refine thn_ret ?_ | refine blk_ret ?_ | (refine thn_exit (K := K) ?_; clear hK K) | refine thn_exit ?_ | refine blk_here ?_ | refine blk_past rfl ?_ | refine thn_norm ?_ | refine blk_norm ?_ | refine CW.condT rfl ?_ | refine CW.condF rfl ?_ | (refine hK _ _ ?_; clear hK K))
      refine CW.condP rfl (fun h5 => ?_) (fun h5 => ?_)
      · have hkl : k < ops.length := by omega
        have hpk1 := putSum7_le ops (k + 1)
        have hps := putSum7_succ hkl
        obtain ⟨z1, z2⟩ := hosz ops[k] (List.getElem_mem hkl)
        obtain ⟨BA, bcap, KA, kcap, e1, q1, q2, q3, q4, q5, q6, q7⟩ := hoe k ops[k] (List.getElem?_eq_getElem hkl)
        generalize ops[k] = o at *
        obtain ⟨X, h4, base, gW, hN⟩ := hL
        have hcs4 := hso.grow gW
        have hkb : k * 4 < cs.length := by omega
        repeat (first | refine WL.nil ?_ | refine WL.auto (h := ?_) | refine WL.gskip rfl rfl rfl rfl ?_ | refine WL.gauto (h := ?_) | (refine CW.seq ?_; intro K hK) | refine CW.block ?_ | refine CW.region ?_ | refine CW.skip ?_ | refine CW.exit ?_ | refine CW.ret ?_ | (refine thn_ret (K := K) ?_; clear hK K) | refine thn_ret ?_ | refine blk_ret ?_ | (refine thn_exit (K := K) ?_; clear hK K) | refine thn_exit ?_ | refine blk_here ?_ | refine blk_past rfl ?_ | refine thn_norm ?_ | refine blk_norm ?_ | refine CW.condT rfl ?_ | refine CW.condF rfl ?_ | (refine hK _ _ ?_; clear hK K))
        first | refine WL.step rfl ?_ | refine WL.gstep rfl rfl rfl rfl ?_
        refine OpW.indexAddr k rfl rfl rfl hkl (sl_ne hcs4 hkb) (sl_sp hcs4 hkb) ?_
        repeat (first | refine WL.nil ?_ | refine WL.auto (h := ?_) | refine WL.gskip rfl rfl rfl rfl ?_ | refine WL.gauto (h := ?_) | (refine CW.seq ?_; intro K hK) | refine CW.block ?_ | refine CW.region ?_ | refine CW.skip ?_ | refine CW.exit ?_ | refine CW.ret ?_ | (refine thn_ret (K := K) ?_; clear hK K) | refine thn_ret ?_ | refine blk_ret ?_ | (refine thn_exit (K := K) ?_; clear hK K) | refine thn_exit ?_ | refine blk_here ?_ | refine blk_past rfl ?_ | refine thn_norm ?_ | refine blk_norm ?_ | refine CW.condT rfl ?_ | refine CW.condF rfl ?_ | (refine hK _ _ ?_; clear hK K))
        first | refine WL.step rfl ?_ | refine WL.gstep rfl rfl rfl rfl ?_
        refine OpW.loadAggS _ rfl hcs4 e1 rfl (by decide) ?_
        repeat (first | refine WL.nil ?_ | refine WL.auto (h := ?_) | refine WL.gskip rfl rfl rfl rfl ?_ | refine WL.gauto (h := ?_) | (refine CW.seq ?_; intro K hK) | refine CW.block ?_ | refine CW.region ?_ | refine CW.skip ?_ | refine CW.exit ?_ | refine CW.ret ?_ | (refine thn_ret (K := K) ?_; clear hK K) | refine thn_ret ?_ | refine blk_ret ?_ | (refine thn_exit (K := K) ?_; clear hK K) | refine thn_exit ?_ | refine blk_here ?_ | refine blk_past rfl ?_ | refine thn_norm ?_ | refine blk_norm ?_ | refine CW.condT rfl ?_ | refine CW.condF rfl ?_ | (refine hK _ _ ?_; clear hK K))
        first | refine WL.step rfl ?_ | refine WL.gstep rfl rfl rfl rfl ?_
        refine OpW.alloc (fun b3 w5 n5 => ?_)
        repeat (first | refine WL.nil ?_ | refine WL.auto (h := ?_) | refine WL.gskip rfl rfl rfl rfl ?_ | refine WL.gauto (h := ?_) | (refine CW.seq ?_; intro K hK) | refine CW.block ?_ | refine CW.region ?_ | refine CW.skip ?_ | refine CW.exit ?_ | refine CW.ret ?_ | (refine thn_ret (K := K) ?_; clear hK K) | refine thn_ret ?_ | refine blk_ret ?_ | (refine thn_exit (K := K) ?_; clear hK K) | refine thn_exit ?_ | refine blk_here ?_ | refine blk_past rfl ?_ | refine thn_norm ?_ | refine blk_norm ?_ | refine CW.condT rfl ?_ | refine CW.condF rfl ?_ | (refine hK _ _ ?_; clear hK K))
        refine WL.step0 ?_
        refine OpW.storeAll rfl rfl rfl n5.blk rfl rfl (fun w6 p6 hb => ?_)
        have g6 : Grow w4 w6 := n5.grow.chgNew p6.chg (fun i hi h => by subst h; have := n5.fresh; omega)
        have h6 := h4.more g6
        have gW6 := gW.then g6
        have hb3 : w4.heap.size ≤ b3 := n5.fresh
        have hlt3 : b3 < w6.heap.size := Blk.lt hb
        have zW : W.heap.size ≤ w4.heap.size := gW.size
        obtain ⟨X6, hX6⟩ : ∃ X6, X6 = (fun k => X k ∨ w4.heap.size ≤ k ∧ k < w6.heap.size) := ⟨_, rfl⟩
        have xb3 : X6 b3 := by rw [hX6]; exact Or.inr ⟨hb3, hlt3⟩
        have base6 : ∀ b, b < W.heap.size → X6 b := fun b hb => by rw [hX6]; exact Or.inl (base b hb)
        have hN6 : (np = none ∧ mp = none) ∨ ∃ (nb nbm c : Nat) (s : Bool), np = some ⟨nb, 0, none⟩ ∧ mp = some ⟨nbm, 0, none⟩ ∧ IsNode w6 nb db c s ∧ IsNodeM w6 nbm mb c s ∧ X6 nb ∧ X6 nbm ∧ W.heap.size ≤ nb ∧ W.heap.size ≤ nbm ∧ c ≤ 20000000 + k ∧ b3 ≠ nb ∧ b3 ≠ nbm := by
          refine hN.imp id ?_
          rintro ⟨nb, nbm, c, s, y1, y2, y3, y4, y5, y6, y7, y8, y9⟩
          exact ⟨nb, nbm, c, s, y1, y2, Blk.grow y3 g6, Blk.grow y4 g6, by rw [hX6]; exact Or.inl y5, by rw [hX6]; exact Or.inl y6, y7, y8, y9, fun e => by have := Blk.lt y3; omega, fun e => by have := Blk.lt y4; omega⟩
        rw [← hX6] at h6
        clear h4 hN base hX6
        repeat (first | refine WL.nil ?_ | refine WL.auto (h := ?_) | refine WL.gskip rfl rfl rfl rfl ?_ | refine WL.gauto (h := ?_) | (refine CW.seq ?_; intro K hK) | refine CW.block ?_ | refine CW.region ?_ | refine CW.skip ?_ | refine CW.exit ?_ | refine CW.ret ?_ | (refine thn_ret (K := K) ?_; clear hK K) | refine thn_ret ?_ | refine blk_ret ?_ | (refine thn_exit (K := K) ?_; clear hK K) | refine thn_exit ?_ | refine blk_here ?_ | refine blk_past rfl ?_ | refine thn_norm ?_ | refine blk_norm ?_ | refine CW.condT rfl ?_ | refine CW.condF rfl ?_ | (refine hK _ _ ?_; clear hK K))
        have key : ∀ (w' : World) (db mb : Nat) (np mp : Option Addr) (d' : PD), Fit d' (1048576 + putSum7 ops (k + 1)) → Lives W w' (20000000 + (k + 1)) db mb d' np mp →
            ∀ e0, K (upd (upd (upd (upd (upd (upd (upd e0 5 (.pointer (some ⟨db, 0, none⟩))) 7 (.pointer (some ⟨mb, 0, none⟩))) 9 (.pointer np)) 11 (.pointer mp)) 69 (.slice OA ops.length ocap)) 70 (.int .i64 ops.length)) 71 (.int .i64 k)) w' := by
          intro w7 db mb np mp d7 hf7 hL E1
          refine hK _ _ ?_
          clear hK
          obtain ⟨X, h7, base, gW7, hN⟩ := hL
          have hlen : (crashAll d7.files []).1.length ≤ 1099511627776 := by rw [crashAll_length]; have := hf7.good.len; omega
          repeat (first | refine WL.nil ?_ | refine WL.auto (h := ?_) | refine WL.gskip rfl rfl rfl rfl ?_ | refine WL.gauto (h := ?_) | (refine CW.seq ?_; intro K hK) | refine CW.block ?_ | refine CW.region ?_ | refine CW.skip ?_ | refine CW.exit ?_ | refine CW.ret ?_ | (refine thn_ret (K := K) ?_; clear hK K) | refine thn_ret ?_ | refine blk_ret ?_ | (refine thn_exit (K := K) ?_; clear hK K) | refine thn_exit ?_ | refine blk_here ?_ | refine blk_past rfl ?_ | refine thn_norm ?_ | refine blk_norm ?_ | refine CW.condT rfl ?_ | refine CW.condF rfl ?_ | (refine hK _ _ ?_; clear hK K))
          first | refine WL.step rfl ?_ | refine WL.gstep rfl rfl rfl rfl ?_
          refine OpW.call ((crashTD h7 none 0 [] hf7 (by omega) (Sl.nil _ _) (by simp) (by simp)).mono ?_) rfl
          rintro v w8 ⟨g8, OA8, oc8, rfl, o8⟩
          have h8 := h7.grow g8
          repeat (first | refine WL.nil ?_ | refine WL.auto (h := ?_) | refine WL.gskip rfl rfl rfl rfl ?_ | refine WL.gauto (h := ?_) | (refine CW.seq ?_; intro K hK) | refine CW.block ?_ | refine CW.region ?_ | refine CW.skip ?_ | refine CW.exit ?_ | refine CW.ret ?_ | (refine thn_ret (K := K) ?_; clear hK K) | refine thn_ret ?_ | refine blk_ret ?_ | (refine thn_exit (K := K) ?_; clear hK K) | refine thn_exit ?_ | refine blk_here ?_ | refine blk_past rfl ?_ | refine thn_norm ?_ | refine blk_norm ?_ | refine CW.condT rfl ?_ | refine CW.condF rfl ?_ | (refine hK _ _ ?_; clear hK K))
          first | refine WL.step rfl ?_ | refine WL.gstep rfl rfl rfl rfl ?_
          refine OpW.call ((crashTM h8 none 0 [] hf7 (by omega) (Sl.nil _ _) (by simp)).mono ?_) rfl
          rintro v w9 ⟨g9, OA9, oc9, rfl, o9⟩
          have h9 := h8.grow g9
          repeat (first | refine WL.nil ?_ | refine WL.auto (h := ?_) | refine WL.gskip rfl rfl rfl rfl ?_ | refine WL.gauto (h := ?_) | (refine CW.seq ?_; intro K hK) | refine CW.block ?_ | refine CW.region ?_ | refine CW.skip ?_ | refine CW.exit ?_ | refine CW.ret ?_ | (refine thn_ret (K := K) ?_; clear hK K) | refine thn_ret ?_ | refine blk_ret ?_ | (refine thn_exit (K := K) ?_; clear hK K) | refine thn_exit ?_ | refine blk_here ?_ | refine blk_past rfl ?_ | refine thn_norm ?_ | refine blk_norm ?_ | refine CW.condT rfl ?_ | refine CW.condF rfl ?_ | (refine hK _ _ ?_; clear hK K))
          first | refine WL.step rfl ?_ | refine WL.gstep rfl rfl rfl rfl ?_
          refine OpW.call ((same37 _ _ _ _ _ _ _ _ _ (o8.grow g9) o9 hlen hlen).mono ?_) rfl
          rintro v w10 ⟨rfl, g10⟩
          rw [decide_eq_true (p := (crashAll d7.files []).1 = (crashAll d7.files []).1) rfl]
          have h10 := h9.grow g10
          repeat (first | refine WL.nil ?_ | refine WL.auto (h := ?_) | refine WL.gskip rfl rfl rfl rfl ?_ | refine WL.gskipU rfl rfl rfl rfl ?_ | refine WL.gauto (h := ?_) | (refine CW.seq ?_; intro K hK) | refine CW.block ?_ | refine CW.region ?_ | refine CW.skip ?_ | refine CW.exit ?_ | refine CW.ret ?_ | (refine thn_ret (K := K) ?_; clear hK K) | refine thn_ret ?_ | refine blk_ret ?_ | (refine thn_exit (K := K) ?_; clear hK K) | refine thn_exit ?_ | refine blk_here ?_ | refine blk_past rfl ?_ | refine thn_norm ?_ | refine blk_norm ?_ | refine CW.condT rfl ?_ | refine CW.condF rfl ?_ | (refine hK _ _ ?_; clear hK K))
          first | refine WL.step rfl ?_ | refine WL.gstep rfl rfl rfl rfl ?_
          refine OpW.call ((waitingTD h10 hf7 (by omega)).mono ?_) rfl
          rintro v w11 ⟨g11, rfl⟩
          have h11 := h10.grow g11
          repeat (first | refine WL.nil ?_ | refine WL.auto (h := ?_) | refine WL.gskip rfl rfl rfl rfl ?_ | refine WL.gskipU rfl rfl rfl rfl ?_ | refine WL.gauto (h := ?_) | (refine CW.seq ?_; intro K hK) | refine CW.block ?_ | refine CW.region ?_ | refine CW.skip ?_ | refine CW.exit ?_ | refine CW.ret ?_ | (refine thn_ret (K := K) ?_; clear hK K) | refine thn_ret ?_ | refine blk_ret ?_ | (refine thn_exit (K := K) ?_; clear hK K) | refine thn_exit ?_ | refine blk_here ?_ | refine blk_past rfl ?_ | refine thn_norm ?_ | refine blk_norm ?_ | refine CW.condT rfl ?_ | refine CW.condF rfl ?_ | (refine hK _ _ ?_; clear hK K))
          first | refine WL.step rfl ?_ | refine WL.gstep rfl rfl rfl rfl ?_
          refine OpW.call ((waitingTM h11 hf7 (by omega)).mono ?_) rfl
          rintro v w12 ⟨g12, rfl⟩
          have h12 := h11.grow g12
          have gg := g8.then (g9.then (g10.then (g11.then g12)))
          repeat (first | refine WL.nil ?_ | refine WL.auto (h := ?_) | refine WL.gskip rfl rfl rfl rfl ?_ | refine WL.gskipU rfl rfl rfl rfl ?_ | refine WL.gauto (h := ?_) | (refine CW.seq ?_; intro K hK) | refine CW.block ?_ | refine CW.region ?_ | refine CW.skip ?_ | refine CW.exit ?_ | refine CW.ret ?_ | (refine thn_ret (K := K) ?_; clear hK K) | refine thn_ret ?_ | refine blk_ret ?_ | (refine thn_exit (K := K) ?_; clear hK K) | refine thn_exit ?_ | refine blk_here ?_ | refine blk_past rfl ?_ | refine thn_norm ?_ | refine blk_norm ?_ | refine CW.condT rfl ?_ | refine CW.condF rfl ?_ | (refine hK _ _ ?_; clear hK K))
          rw [show decide (¬ waitOf d7.files = waitOf d7.files) = false from by simp]
          repeat (first | refine WL.nil ?_ | refine WL.auto (h := ?_) | refine WL.gskip rfl rfl rfl rfl ?_ | refine WL.gskipU rfl rfl rfl rfl ?_ | refine WL.gauto (h := ?_) | (refine CW.seq ?_; intro K hK) | refine CW.block ?_ | refine CW.region ?_ | refine CW.skip ?_ | refine CW.exit ?_ | refine CW.ret ?_ | (refine thn_ret (K := K) ?_; clear hK K) | refine thn_ret ?_ | refine blk_ret ?_ | (refine thn_exit (K := K) ?_; clear hK K) | refine thn_exit ?_ | refine blk_here ?_ | refine blk_past rfl ?_ | refine thn_norm ?_ | refine blk_norm ?_ | refine CW.condT rfl ?_ | refine CW.condF rfl ?_ | (refine hK _ _ ?_; clear hK K))
          refine hJ (ops.length - (k + 1)) _ _ (by omega) ⟨k + 1, db, mb, d7, np, mp, by omega, rfl, hf7, ⟨X, h12, base, gW7.then gg, hN.imp id ?_⟩, rep7 rfl rfl rfl rfl rfl rfl (congrArg (Value.int .i64) (by omega))⟩
          rintro ⟨nb, nbm, c, s, y1, y2, y3, y4, y5⟩
          exact ⟨nb, nbm, c, s, y1, y2, Blk.grow y3 gg, Blk.grow y4 gg, y5⟩
        clear hK
        by_cases k1 : o.kind = 1
        · rw [decide_eq_true k1]
          repeat (first | refine WL.nil ?_ | refine WL.auto (h := ?_) | refine WL.gskip rfl rfl rfl rfl ?_ | refine WL.gauto (h := ?_) | (refine CW.seq ?_; intro K hK) | refine CW.block ?_ | refine CW.region ?_ | refine CW.skip ?_ | refine CW.exit ?_ | refine CW.ret ?_ | (refine thn_ret (K := K) ?_; clear hK K) | refine thn_ret ?_ | refine blk_ret ?_ | (refine thn_exit (K := K) ?_; clear hK K) | refine thn_exit ?_ | refine blk_here ?_ | refine blk_past rfl ?_ | refine thn_norm ?_ | refine blk_norm ?_ | refine CW.condT rfl ?_ | refine CW.condF rfl ?_ | (refine hK _ _ ?_; clear hK K))
          rcases hN6 with ⟨rfl, rfl⟩ | ⟨nb, nbm, c, s, rfl, rfl, y3, y4, y5, y6, y7, y8, y9, y10, y11⟩
          · refine CW.held (fun _ => False) (.take 0 (.take 1 (.take 2 (.take 3 (.take 4 (.take 5 (.take 7 (.take 8 (.take 9 (.one 6 (.one 10 (.take 11 (.take 12 (.take 13 (.take 15 (.take 16 (.take 17 (.two 14 (.one 18 (.take 19 (.take 20 (.take 21 (.take 22 (.take 24 (.take 25 (.take 26 (.two 23 (.one 27 (.take 28 (.take 29 (.take 30 .nil)))) 27 (.one 23 (.take 28 (.take 29 (.take 30 .nil))))))))))))) 18 (.one 14 (.take 19 (.take 20 (.take 21 (.take 22 (.take 24 (.take 25 (.take 26 (.two 23 (.one 27 (.take 28 (.take 29 (.take 30 .nil)))) 27 (.one 23 (.take 28 (.take 29 (.take 30 .nil))))))))))))))))))))))))))))))) rfl (by kernel_rfl) (by kernel_rfl) (fun w7 g7 => ?_)
            have hL7 : Lives W w7 (20000000 + (k + 1)) db mb d none none := ⟨X6, h6.grow g7, base6, gW6.then g7, Or.inl ⟨rfl, rfl⟩⟩
            repeat (first | refine AL.nil ?_ | refine AL.auto (hn := ?_) | refine AL.gskip rfl rfl rfl rfl rfl ?_ | refine AL.goneSkip rfl rfl rfl rfl rfl ?_ | refine AL.gskipU rfl rfl rfl rfl rfl ?_ | refine AL.goneSkipU rfl rfl rfl rfl rfl ?_ | refine AL.gauto (hn := ?_) | refine AL.oauto (hn := ?_))
            refine AL.two ?_ ?_
            all_goals (
              repeat (first | refine AL.nil ?_ | refine AL.auto (hn := ?_) | refine AL.gskip rfl rfl rfl rfl rfl ?_ | refine AL.goneSkip rfl rfl rfl rfl rfl ?_ | refine AL.gskipU rfl rfl rfl rfl rfl ?_ | refine AL.goneSkipU rfl rfl rfl rfl rfl ?_ | refine AL.gauto (hn := ?_) | refine AL.oauto (hn := ?_))
            )
            all_goals (refine AL.two ?_ ?_)
            all_goals (
              repeat (first | refine AL.nil ?_ | refine AL.auto (hn := ?_) | refine AL.gskip rfl rfl rfl rfl rfl ?_ | refine AL.goneSkip rfl rfl rfl rfl rfl ?_ | refine AL.gskipU rfl rfl rfl rfl rfl ?_ | refine AL.goneSkipU rfl rfl rfl rfl rfl ?_ | refine AL.gauto (hn := ?_) | refine AL.oauto (hn := ?_))
            )
            all_goals (
              repeat (first | refine WL.nil ?_ | refine WL.auto (h := ?_) | refine WL.gskip rfl rfl rfl rfl ?_ | refine WL.gauto (h := ?_) | (refine CW.seq ?_; intro K hK) | refine CW.block ?_ | refine CW.region ?_ | refine CW.skip ?_ | refine CW.exit ?_ | refine CW.ret ?_ | (refine thn_ret (K := K) ?_; clear hK K) | refine thn_ret ?_ | refine blk_ret ?_ | (refine thn_exit (K := K) ?_; clear hK K) | refine thn_exit ?_ | refine blk_here ?_ | refine blk_past rfl ?_ | refine thn_norm ?_ | refine blk_norm ?_ | refine CW.condT rfl ?_ | refine CW.condF rfl ?_ | (refine hK _ _ ?_; clear hK K))
            )
            all_goals exact K_of' (key w7 db mb none none d (hf.le (by omega)) hL7) (rep7 rfl rfl rfl rfl rfl rfl rfl)
          · have n3 : ¬ (fun b => ¬ X6 b ∨ b = nb ∨ b = nbm) b3 := fun h => h.elim (fun h => h xb3) (fun h => h.elim y10 y11)
            have hne := node_ne y3 y4
            obtain ⟨hfS, hcS⟩ := nputS_fit (s := s) (c := c) (r := o.b) hf
            refine CW.held (fun b => ¬ X6 b ∨ b = nb ∨ b = nbm) (.take 0 (.take 1 (.take 2 (.take 3 (.take 4 (.take 5 (.take 7 (.take 8 (.take 9 (.one 6 (.one 10 (.take 11 (.take 12 (.take 13 (.take 15 (.take 16 (.take 17 (.two 14 (.one 18 (.take 19 (.take 20 (.take 21 (.take 22 (.take 24 (.take 25 (.take 26 (.two 23 (.one 27 (.take 28 (.take 29 (.take 30 .nil)))) 27 (.one 23 (.take 28 (.take 29 (.take 30 .nil))))))))))))) 18 (.one 14 (.take 19 (.take 20 (.take 21 (.take 22 (.take 24 (.take 25 (.take 26 (.two 23 (.one 27 (.take 28 (.take 29 (.take 30 .nil)))) 27 (.one 23 (.take 28 (.take 29 (.take 30 .nil))))))))))))))))))))))))))))))) rfl (by kernel_rfl) (by kernel_rfl) (fun w7 g7 => ?_)
            have gW7 := gW6.then g7
            repeat (first | refine AL.nil ?_ | refine AL.auto (hn := ?_) | refine AL.gskip rfl rfl rfl rfl rfl ?_ | refine AL.goneSkip rfl rfl rfl rfl rfl ?_ | refine AL.gauto (hn := ?_) | refine AL.oauto (hn := ?_))
            first | refine AL.one rfl rfl ?_ | refine AL.gone rfl rfl rfl rfl rfl ?_
            refine OpW.call ((putS62 (h6.grow g7) (Blk.grow y3 g7) y5 (q1.grow gW7) (fun hne a ha => base6 _ (q1.lt (ne_bvs hne) ha)) hf (by omega) z1 (by omega)).mono ?_) rfl
            rintro v w8 ⟨rfl, h8, hn8, c8⟩
            have hm8 : IsNodeM w8 nbm mb c s := Blk.keep (Blk.grow y4 g7) c8 (fun h => h.elim (fun h => h y6) (fun h => hne h))
            have gW8 := base_grow2 base6 y7 gW7 c8
            refine ⟨fun h => h.andThen (c8.mono fun b _ hb => hb.imp id Or.inl), ?_⟩
            repeat (first | refine AL.nil ?_ | refine AL.auto (hn := ?_) | refine AL.gskip rfl rfl rfl rfl rfl ?_ | refine AL.goneSkip rfl rfl rfl rfl rfl ?_ | refine AL.gauto (hn := ?_) | refine AL.oauto (hn := ?_))
            first | refine AL.one rfl rfl ?_ | refine AL.gone rfl rfl rfl rfl rfl ?_
            refine OpW.call ((putS67 h8 hm8 y6 (q1.grow gW8) hf (by omega) z1 (by omega)).mono ?_) rfl
            rintro v w9 ⟨rfl, h9, hm9, c9⟩
            have hn9 := Blk.keep hn8 c9 (fun h => h.elim (fun h => h y5) (fun h => hne h.symm))
            have gW9 := base_grow2 base6 y8 gW8 c9
            refine ⟨fun h => h.andThen (c9.mono fun b _ hb => hb.imp id Or.inr), ?_⟩
            clear hm8 hn8 h8 y3 y4
            generalize nputS d s c o.b = p at *
            obtain ⟨e8, d8, cc, ss⟩ := p
            simp only at h9 hm9 hn9 hfS hcS
            repeat (first | refine AL.nil ?_ | refine AL.auto (hn := ?_) | refine AL.gskip rfl rfl rfl rfl rfl ?_ | refine AL.goneSkip rfl rfl rfl rfl rfl ?_ | refine AL.gauto (hn := ?_) | refine AL.oauto (hn := ?_))
            have hm9' : Blk w9 nbm #[.pointer (some ⟨mb, 0, none⟩), .int .i64 (cc : Int), .bool ss] 96 := hm9
            rw [show decide (¬ (e8, d8, cc, ss).fst = (e8, d8, cc, ss).fst) = false from by simp]
            repeat (first | refine AL.nil ?_ | refine AL.auto (hn := ?_) | refine AL.gskip rfl rfl rfl rfl rfl ?_ | refine AL.goneSkip rfl rfl rfl rfl rfl ?_ | refine AL.gauto (hn := ?_) | refine AL.oauto (hn := ?_))
            refine AL.two ?_ ?_
            · first | refine AL.one rfl rfl ?_ | refine AL.gone rfl rfl rfl rfl rfl ?_
              refine OpW.call ((count63 hn9).mono ?_) rfl
              rintro v w10 ⟨rfl, g10⟩
              refine ⟨fun h => h.andThen (Chg.to g10), ?_⟩
              repeat (first | refine AL.nil ?_ | refine AL.auto (hn := ?_) | refine AL.gskip rfl rfl rfl rfl rfl ?_ | refine AL.goneSkip rfl rfl rfl rfl rfl ?_ | refine AL.gauto (hn := ?_) | refine AL.oauto (hn := ?_))
              first | refine AL.one rfl rfl ?_ | refine AL.gone rfl rfl rfl rfl rfl ?_
              refine OpW.load (v := .int .i64 (cc : Int)) rfl (Blk.grow hm9' g10) rfl ?_
              refine ⟨fun h => h, ?_⟩
              (
  repeat (first | refine AL.nil ?_ | refine AL.auto (hn := ?_) | refine AL.gskip rfl rfl rfl rfl rfl ?_ | refine AL.goneSkip rfl rfl rfl rfl rfl ?_ | refine AL.gauto (hn := ?_) | refine AL.oauto (hn := ?_))
  rw [show decide (¬ (cc : Int) = (cc : Int)) = false from by simp]
  repeat (first | refine AL.nil ?_ | refine AL.auto (hn := ?_) | refine AL.gskip rfl rfl rfl rfl rfl ?_ | refine AL.goneSkip rfl rfl rfl rfl rfl ?_ | refine AL.gauto (hn := ?_) | refine AL.oauto (hn := ?_))
  refine AL.two ?_ ?_
  · first | refine AL.one rfl rfl ?_ | refine AL.gone rfl rfl rfl rfl rfl ?_
    refine OpW.call ((sick64 (Blk.grow hn9 g10)).mono ?_) rfl
    rintro v w11 ⟨rfl, g11⟩
    refine ⟨fun h => h.andThen (Chg.to g11), ?_⟩
    repeat (first | refine AL.nil ?_ | refine AL.auto (hn := ?_) | refine AL.gskip rfl rfl rfl rfl rfl ?_ | refine AL.goneSkip rfl rfl rfl rfl rfl ?_ | refine AL.gauto (hn := ?_) | refine AL.oauto (hn := ?_))
    first | refine AL.one rfl rfl ?_ | refine AL.gone rfl rfl rfl rfl rfl ?_
    refine OpW.load (v := .bool ss) rfl (Blk.grow hm9' (g10.then g11)) rfl ?_
    refine ⟨fun h => h, ?_⟩
    (
  repeat (first | refine AL.nil ?_ | refine AL.auto (hn := ?_) | refine AL.gskip rfl rfl rfl rfl rfl ?_ | refine AL.goneSkip rfl rfl rfl rfl rfl ?_ | refine AL.gauto (hn := ?_) | refine AL.oauto (hn := ?_))
  rw [show (!(ss == ss)) = false from by simp]
  repeat (first | refine AL.nil ?_ | refine AL.auto (hn := ?_) | refine AL.gskip rfl rfl rfl rfl rfl ?_ | refine AL.goneSkip rfl rfl rfl rfl rfl ?_ | refine AL.gauto (hn := ?_) | refine AL.oauto (hn := ?_))
  repeat (first | refine WL.nil ?_ | refine WL.auto (h := ?_) | refine WL.gskip rfl rfl rfl rfl ?_ | refine WL.gauto (h := ?_) | (refine CW.seq ?_; intro K hK) | refine CW.block ?_ | refine CW.region ?_ | refine CW.skip ?_ | refine CW.exit ?_ | refine CW.ret ?_ | (refine thn_ret (K := K) ?_; clear hK K) | refine thn_ret ?_ | refine blk_ret ?_ | (refine thn_exit (K := K) ?_; clear hK K) | refine thn_exit ?_ | refine blk_here ?_ | refine blk_past rfl ?_ | refine thn_norm ?_ | refine blk_norm ?_ | refine CW.condT rfl ?_ | refine CW.condF rfl ?_ | (refine hK _ _ ?_; clear hK K))
  exact K_of' (key w11 db mb (some ⟨nb, 0, none⟩) (some ⟨nbm, 0, none⟩) d8 (hfS.le (by omega)) ⟨X6, h9.grow (g10.then g11), base6, gW9.then (g10.then g11), Or.inr ⟨nb, nbm, cc, ss, rfl, rfl, Blk.grow hn9 (g10.then g11), Blk.grow hm9 (g10.then g11), y5, y6, y7, y8, by omega⟩⟩) (rep7 rfl rfl rfl rfl rfl rfl rfl))
  · first | refine AL.one rfl rfl ?_ | refine AL.gone rfl rfl rfl rfl rfl ?_
    refine OpW.load (v := .bool ss) rfl (Blk.grow hm9' g10) rfl ?_
    refine ⟨fun h => h, ?_⟩
    repeat (first | refine AL.nil ?_ | refine AL.auto (hn := ?_) | refine AL.gskip rfl rfl rfl rfl rfl ?_ | refine AL.goneSkip rfl rfl rfl rfl rfl ?_ | refine AL.gauto (hn := ?_) | refine AL.oauto (hn := ?_))
    first | refine AL.one rfl rfl ?_ | refine AL.gone rfl rfl rfl rfl rfl ?_
    refine OpW.call ((sick64 (Blk.grow hn9 g10)).mono ?_) rfl
    rintro v w11 ⟨rfl, g11⟩
    refine ⟨fun h => h.andThen (Chg.to g11), ?_⟩
    (
  repeat (first | refine AL.nil ?_ | refine AL.auto (hn := ?_) | refine AL.gskip rfl rfl rfl rfl rfl ?_ | refine AL.goneSkip rfl rfl rfl rfl rfl ?_ | refine AL.gauto (hn := ?_) | refine AL.oauto (hn := ?_))
  rw [show (!(ss == ss)) = false from by simp]
  repeat (first | refine AL.nil ?_ | refine AL.auto (hn := ?_) | refine AL.gskip rfl rfl rfl rfl rfl ?_ | refine AL.goneSkip rfl rfl rfl rfl rfl ?_ | refine AL.gauto (hn := ?_) | refine AL.oauto (hn := ?_))
  repeat (first | refine WL.nil ?_ | refine WL.auto (h := ?_) | refine WL.gskip rfl rfl rfl rfl ?_ | refine WL.gauto (h := ?_) | (refine CW.seq ?_; intro K hK) | refine CW.block ?_ | refine CW.region ?_ | refine CW.skip ?_ | refine CW.exit ?_ | refine CW.ret ?_ | (refine thn_ret (K := K) ?_; clear hK K) | refine thn_ret ?_ | refine blk_ret ?_ | (refine thn_exit (K := K) ?_; clear hK K) | refine thn_exit ?_ | refine blk_here ?_ | refine blk_past rfl ?_ | refine thn_norm ?_ | refine blk_norm ?_ | refine CW.condT rfl ?_ | refine CW.condF rfl ?_ | (refine hK _ _ ?_; clear hK K))
  exact K_of' (key w11 db mb (some ⟨nb, 0, none⟩) (some ⟨nbm, 0, none⟩) d8 (hfS.le (by omega)) ⟨X6, h9.grow (g10.then g11), base6, gW9.then (g10.then g11), Or.inr ⟨nb, nbm, cc, ss, rfl, rfl, Blk.grow hn9 (g10.then g11), Blk.grow hm9 (g10.then g11), y5, y6, y7, y8, by omega⟩⟩) (rep7 rfl rfl rfl rfl rfl rfl rfl)))
            · first | refine AL.one rfl rfl ?_ | refine AL.gone rfl rfl rfl rfl rfl ?_
              refine OpW.load (v := .int .i64 (cc : Int)) rfl hm9' rfl ?_
              refine ⟨fun h => h, ?_⟩
              repeat (first | refine AL.nil ?_ | refine AL.auto (hn := ?_) | refine AL.gskip rfl rfl rfl rfl rfl ?_ | refine AL.goneSkip rfl rfl rfl rfl rfl ?_ | refine AL.gauto (hn := ?_) | refine AL.oauto (hn := ?_))
              first | refine AL.one rfl rfl ?_ | refine AL.gone rfl rfl rfl rfl rfl ?_
              refine OpW.call ((count63 hn9).mono ?_) rfl
              rintro v w10 ⟨rfl, g10⟩
              refine ⟨fun h => h.andThen (Chg.to g10), ?_⟩
              (
  repeat (first | refine AL.nil ?_ | refine AL.auto (hn := ?_) | refine AL.gskip rfl rfl rfl rfl rfl ?_ | refine AL.goneSkip rfl rfl rfl rfl rfl ?_ | refine AL.gauto (hn := ?_) | refine AL.oauto (hn := ?_))
  rw [show decide (¬ (cc : Int) = (cc : Int)) = false from by simp]
  repeat (first | refine AL.nil ?_ | refine AL.auto (hn := ?_) | refine AL.gskip rfl rfl rfl rfl rfl ?_ | refine AL.goneSkip rfl rfl rfl rfl rfl ?_ | refine AL.gauto (hn := ?_) | refine AL.oauto (hn := ?_))
  refine AL.two ?_ ?_
  · first | refine AL.one rfl rfl ?_ | refine AL.gone rfl rfl rfl rfl rfl ?_
    refine OpW.call ((sick64 (Blk.grow hn9 g10)).mono ?_) rfl
    rintro v w11 ⟨rfl, g11⟩
    refine ⟨fun h => h.andThen (Chg.to g11), ?_⟩
    repeat (first | refine AL.nil ?_ | refine AL.auto (hn := ?_) | refine AL.gskip rfl rfl rfl rfl rfl ?_ | refine AL.goneSkip rfl rfl rfl rfl rfl ?_ | refine AL.gauto (hn := ?_) | refine AL.oauto (hn := ?_))
    first | refine AL.one rfl rfl ?_ | refine AL.gone rfl rfl rfl rfl rfl ?_
    refine OpW.load (v := .bool ss) rfl (Blk.grow hm9' (g10.then g11)) rfl ?_
    refine ⟨fun h => h, ?_⟩
    (
  repeat (first | refine AL.nil ?_ | refine AL.auto (hn := ?_) | refine AL.gskip rfl rfl rfl rfl rfl ?_ | refine AL.goneSkip rfl rfl rfl rfl rfl ?_ | refine AL.gauto (hn := ?_) | refine AL.oauto (hn := ?_))
  rw [show (!(ss == ss)) = false from by simp]
  repeat (first | refine AL.nil ?_ | refine AL.auto (hn := ?_) | refine AL.gskip rfl rfl rfl rfl rfl ?_ | refine AL.goneSkip rfl rfl rfl rfl rfl ?_ | refine AL.gauto (hn := ?_) | refine AL.oauto (hn := ?_))
  repeat (first | refine WL.nil ?_ | refine WL.auto (h := ?_) | refine WL.gskip rfl rfl rfl rfl ?_ | refine WL.gauto (h := ?_) | (refine CW.seq ?_; intro K hK) | refine CW.block ?_ | refine CW.region ?_ | refine CW.skip ?_ | refine CW.exit ?_ | refine CW.ret ?_ | (refine thn_ret (K := K) ?_; clear hK K) | refine thn_ret ?_ | refine blk_ret ?_ | (refine thn_exit (K := K) ?_; clear hK K) | refine thn_exit ?_ | refine blk_here ?_ | refine blk_past rfl ?_ | refine thn_norm ?_ | refine blk_norm ?_ | refine CW.condT rfl ?_ | refine CW.condF rfl ?_ | (refine hK _ _ ?_; clear hK K))
  exact K_of' (key w11 db mb (some ⟨nb, 0, none⟩) (some ⟨nbm, 0, none⟩) d8 (hfS.le (by omega)) ⟨X6, h9.grow (g10.then g11), base6, gW9.then (g10.then g11), Or.inr ⟨nb, nbm, cc, ss, rfl, rfl, Blk.grow hn9 (g10.then g11), Blk.grow hm9 (g10.then g11), y5, y6, y7, y8, by omega⟩⟩) (rep7 rfl rfl rfl rfl rfl rfl rfl))
  · first | refine AL.one rfl rfl ?_ | refine AL.gone rfl rfl rfl rfl rfl ?_
    refine OpW.load (v := .bool ss) rfl (Blk.grow hm9' g10) rfl ?_
    refine ⟨fun h => h, ?_⟩
    repeat (first | refine AL.nil ?_ | refine AL.auto (hn := ?_) | refine AL.gskip rfl rfl rfl rfl rfl ?_ | refine AL.goneSkip rfl rfl rfl rfl rfl ?_ | refine AL.gauto (hn := ?_) | refine AL.oauto (hn := ?_))
    first | refine AL.one rfl rfl ?_ | refine AL.gone rfl rfl rfl rfl rfl ?_
    refine OpW.call ((sick64 (Blk.grow hn9 g10)).mono ?_) rfl
    rintro v w11 ⟨rfl, g11⟩
    refine ⟨fun h => h.andThen (Chg.to g11), ?_⟩
    (
  repeat (first | refine AL.nil ?_ | refine AL.auto (hn := ?_) | refine AL.gskip rfl rfl rfl rfl rfl ?_ | refine AL.goneSkip rfl rfl rfl rfl rfl ?_ | refine AL.gauto (hn := ?_) | refine AL.oauto (hn := ?_))
  rw [show (!(ss == ss)) = false from by simp]
  repeat (first | refine AL.nil ?_ | refine AL.auto (hn := ?_) | refine AL.gskip rfl rfl rfl rfl rfl ?_ | refine AL.goneSkip rfl rfl rfl rfl rfl ?_ | refine AL.gauto (hn := ?_) | refine AL.oauto (hn := ?_))
  repeat (first | refine WL.nil ?_ | refine WL.auto (h := ?_) | refine WL.gskip rfl rfl rfl rfl ?_ | refine WL.gauto (h := ?_) | (refine CW.seq ?_; intro K hK) | refine CW.block ?_ | refine CW.region ?_ | refine CW.skip ?_ | refine CW.exit ?_ | refine CW.ret ?_ | (refine thn_ret (K := K) ?_; clear hK K) | refine thn_ret ?_ | refine blk_ret ?_ | (refine thn_exit (K := K) ?_; clear hK K) | refine thn_exit ?_ | refine blk_here ?_ | refine blk_past rfl ?_ | refine thn_norm ?_ | refine blk_norm ?_ | refine CW.condT rfl ?_ | refine CW.condF rfl ?_ | (refine hK _ _ ?_; clear hK K))
  exact K_of' (key w11 db mb (some ⟨nb, 0, none⟩) (some ⟨nbm, 0, none⟩) d8 (hfS.le (by omega)) ⟨X6, h9.grow (g10.then g11), base6, gW9.then (g10.then g11), Or.inr ⟨nb, nbm, cc, ss, rfl, rfl, Blk.grow hn9 (g10.then g11), Blk.grow hm9 (g10.then g11), y5, y6, y7, y8, by omega⟩⟩) (rep7 rfl rfl rfl rfl rfl rfl rfl)))
        rw [decide_eq_false k1]
        repeat (first | refine WL.nil ?_ | refine WL.auto (h := ?_) | refine WL.gskip rfl rfl rfl rfl ?_ | refine WL.gauto (h := ?_) | (refine CW.seq ?_; intro K hK) | refine CW.block ?_ | refine CW.region ?_ | refine CW.skip ?_ | refine CW.exit ?_ | refine CW.ret ?_ | (refine thn_ret (K := K) ?_; clear hK K) | refine thn_ret ?_ | refine blk_ret ?_ | (refine thn_exit (K := K) ?_; clear hK K) | refine thn_exit ?_ | refine blk_here ?_ | refine blk_past rfl ?_ | refine thn_norm ?_ | refine blk_norm ?_ | refine CW.condT rfl ?_ | refine CW.condF rfl ?_ | (refine hK _ _ ?_; clear hK K))
        by_cases k2 : o.kind = 2
        · rw [decide_eq_true k2]
          repeat (first | refine WL.nil ?_ | refine WL.auto (h := ?_) | refine WL.gskip rfl rfl rfl rfl ?_ | refine WL.gauto (h := ?_) | (refine CW.seq ?_; intro K hK) | refine CW.block ?_ | refine CW.region ?_ | refine CW.skip ?_ | refine CW.exit ?_ | refine CW.ret ?_ | (refine thn_ret (K := K) ?_; clear hK K) | refine thn_ret ?_ | refine blk_ret ?_ | (refine thn_exit (K := K) ?_; clear hK K) | refine thn_exit ?_ | refine blk_here ?_ | refine blk_past rfl ?_ | refine thn_norm ?_ | refine blk_norm ?_ | refine CW.condT rfl ?_ | refine CW.condF rfl ?_ | (refine hK _ _ ?_; clear hK K))
          first | refine WL.step rfl ?_ | refine WL.gstep rfl rfl rfl rfl ?_
          refine OpW.call ((armTD h6 o.n).mono ?_) rfl
          rintro v w7 ⟨h7, c7⟩
          replace hb := hb.keep c7 (fun h => h xb3)
          have gW7 := base_grow base6 gW6 c7
          repeat (first | refine WL.nil ?_ | refine WL.auto (h := ?_) | refine WL.gskip rfl rfl rfl rfl ?_ | refine WL.gauto (h := ?_) | (refine CW.seq ?_; intro K hK) | refine CW.block ?_ | refine CW.region ?_ | refine CW.skip ?_ | refine CW.exit ?_ | refine CW.ret ?_ | (refine thn_ret (K := K) ?_; clear hK K) | refine thn_ret ?_ | refine blk_ret ?_ | (refine thn_exit (K := K) ?_; clear hK K) | refine thn_exit ?_ | refine blk_here ?_ | refine blk_past rfl ?_ | refine thn_norm ?_ | refine blk_norm ?_ | refine CW.condT rfl ?_ | refine CW.condF rfl ?_ | (refine hK _ _ ?_; clear hK K))
          first | refine WL.step rfl ?_ | refine WL.gstep rfl rfl rfl rfl ?_
          refine OpW.call ((armTM h7 o.n).mono ?_) rfl
          rintro v w8 ⟨h8, c8⟩
          have gW8 := base_grow base6 gW7 c8
          repeat (first | refine WL.nil ?_ | refine WL.auto (h := ?_) | refine WL.gskip rfl rfl rfl rfl ?_ | refine WL.gauto (h := ?_) | (refine CW.seq ?_; intro K hK) | refine CW.block ?_ | refine CW.region ?_ | refine CW.skip ?_ | refine CW.exit ?_ | refine CW.ret ?_ | (refine thn_ret (K := K) ?_; clear hK K) | refine thn_ret ?_ | refine blk_ret ?_ | (refine thn_exit (K := K) ?_; clear hK K) | refine thn_exit ?_ | refine blk_here ?_ | refine blk_past rfl ?_ | refine thn_norm ?_ | refine blk_norm ?_ | refine CW.condT rfl ?_ | refine CW.condF rfl ?_ | (refine hK _ _ ?_; clear hK K))
          refine K_of' (key w8 db mb np mp _ ((hf.arm' o.n q7.2).le (by omega)) ⟨X6, h8, base6, gW8, hN6.imp id ?_⟩) (rep7 rfl rfl rfl rfl rfl rfl rfl)
          rintro ⟨nb, nbm, c, s, y1, y2, y3, y4, y5, y6, y7, y8, y9, y10, y11⟩
          exact ⟨nb, nbm, c, s, y1, y2, (Blk.keep y3 c7 (fun h => h y5)).keep c8 (fun h => h y5), (Blk.keep y4 c7 (fun h => h y6)).keep c8 (fun h => h y6), y5, y6, y7, y8, by omega⟩
        rw [decide_eq_false k2]
        repeat (first | refine WL.nil ?_ | refine WL.auto (h := ?_) | refine WL.gskip rfl rfl rfl rfl ?_ | refine WL.gauto (h := ?_) | (refine CW.seq ?_; intro K hK) | refine CW.block ?_ | refine CW.region ?_ | refine CW.skip ?_ | refine CW.exit ?_ | refine CW.ret ?_ | (refine thn_ret (K := K) ?_; clear hK K) | refine thn_ret ?_ | refine blk_ret ?_ | (refine thn_exit (K := K) ?_; clear hK K) | refine thn_exit ?_ | refine blk_here ?_ | refine blk_past rfl ?_ | refine thn_norm ?_ | refine blk_norm ?_ | refine CW.condT rfl ?_ | refine CW.condF rfl ?_ | (refine hK _ _ ?_; clear hK K))
        by_cases k3 : o.kind = 3
        · rw [decide_eq_true k3]
          obtain ⟨c1, c2, c3⟩ := crash_load hf o.keep
          have hcl16 : (crashAll d.files o.keep).1.length ≤ 16 := by rw [crashAll_length]; exact hf.good.len
          have hf0 := c2.arm' o.n q7.2
          repeat (first | refine WL.nil ?_ | refine WL.auto (h := ?_) | refine WL.gskip rfl rfl rfl rfl ?_ | refine WL.gauto (h := ?_) | (refine CW.seq ?_; intro K hK) | refine CW.block ?_ | refine CW.region ?_ | refine CW.skip ?_ | refine CW.exit ?_ | refine CW.ret ?_ | (refine thn_ret (K := K) ?_; clear hK K) | refine thn_ret ?_ | refine blk_ret ?_ | (refine thn_exit (K := K) ?_; clear hK K) | refine thn_exit ?_ | refine blk_here ?_ | refine blk_past rfl ?_ | refine thn_norm ?_ | refine blk_norm ?_ | refine CW.condT rfl ?_ | refine CW.condF rfl ?_ | (refine hK _ _ ?_; clear hK K))
          rw [decide_eq_true k3]
          repeat (first | refine WL.nil ?_ | refine WL.auto (h := ?_) | refine WL.gskip rfl rfl rfl rfl ?_ | refine WL.gauto (h := ?_) | (refine CW.seq ?_; intro K hK) | refine CW.block ?_ | refine CW.region ?_ | refine CW.skip ?_ | refine CW.exit ?_ | refine CW.ret ?_ | (refine thn_ret (K := K) ?_; clear hK K) | refine thn_ret ?_ | refine blk_ret ?_ | (refine thn_exit (K := K) ?_; clear hK K) | refine thn_exit ?_ | refine blk_here ?_ | refine blk_past rfl ?_ | refine thn_norm ?_ | refine blk_norm ?_ | refine CW.condT rfl ?_ | refine CW.condF rfl ?_ | (refine hK _ _ ?_; clear hK K))
          first | refine WL.step rfl ?_ | refine WL.gstep rfl rfl rfl rfl ?_
          refine OpW.call ((crashTD h6 KA kcap o.keep hf (by omega) (q4.grow gW6) (by omega) q5).mono ?_) rfl
          rintro v w7 ⟨g7, OA7, oc7, rfl, o7⟩
          have h7 := h6.grow g7
          have gW7 := gW6.then g7
          replace hb := hb.grow g7
          generalize hcr : (crashAll d.files o.keep).1 = ys at *
          have c3' : ∀ x ∈ ys, x.1.length ≤ 1099511627776 ∧ x.2.length ≤ 1099511627776 := fun x hx => by have := c3 x hx; omega
          repeat (first | refine WL.nil ?_ | refine WL.auto (h := ?_) | refine WL.gskip rfl rfl rfl rfl ?_ | refine WL.gauto (h := ?_) | (refine CW.seq ?_; intro K hK) | refine CW.block ?_ | refine CW.region ?_ | refine CW.skip ?_ | refine CW.exit ?_ | refine CW.ret ?_ | (refine thn_ret (K := K) ?_; clear hK K) | refine thn_ret ?_ | refine blk_ret ?_ | (refine thn_exit (K := K) ?_; clear hK K) | refine thn_exit ?_ | refine blk_here ?_ | refine blk_past rfl ?_ | refine thn_norm ?_ | refine blk_norm ?_ | refine CW.condT rfl ?_ | refine CW.condF rfl ?_ | (refine hK _ _ ?_; clear hK K))
          first | refine WL.step rfl ?_ | refine WL.gstep rfl rfl rfl rfl ?_
          refine OpW.call ((loadTD h7 _ _ _ _ _ o7 (by omega) c3' c1).mono ?_) rfl
          rintro v w8 ⟨db', rfl, g8, h8⟩
          have gW8 := gW7.then g8
          replace hb := hb.grow g8
          repeat (first | refine WL.nil ?_ | refine WL.auto (h := ?_) | refine WL.gskip rfl rfl rfl rfl ?_ | refine WL.gauto (h := ?_) | (refine CW.seq ?_; intro K hK) | refine CW.block ?_ | refine CW.region ?_ | refine CW.skip ?_ | refine CW.exit ?_ | refine CW.ret ?_ | (refine thn_ret (K := K) ?_; clear hK K) | refine thn_ret ?_ | refine blk_ret ?_ | (refine thn_exit (K := K) ?_; clear hK K) | refine thn_exit ?_ | refine blk_here ?_ | refine blk_past rfl ?_ | refine thn_norm ?_ | refine blk_norm ?_ | refine CW.condT rfl ?_ | refine CW.condF rfl ?_ | (refine hK _ _ ?_; clear hK K))
          first | refine WL.step rfl ?_ | refine WL.gstep rfl rfl rfl rfl ?_
          refine OpW.call ((crashTM h8 KA kcap o.keep hf (by omega) (q4.grow gW8) (by omega)).mono ?_) rfl
          rintro v w9 ⟨g9, OA9, oc9, rfl, o9⟩
          have h9 := h8.grow g9
          have gW9 := gW8.then g9
          replace hb := hb.grow g9
          rw [hcr] at o9 ⊢
          repeat (first | refine WL.nil ?_ | refine WL.auto (h := ?_) | refine WL.gskip rfl rfl rfl rfl ?_ | refine WL.gauto (h := ?_) | (refine CW.seq ?_; intro K hK) | refine CW.block ?_ | refine CW.region ?_ | refine CW.skip ?_ | refine CW.exit ?_ | refine CW.ret ?_ | (refine thn_ret (K := K) ?_; clear hK K) | refine thn_ret ?_ | refine blk_ret ?_ | (refine thn_exit (K := K) ?_; clear hK K) | refine thn_exit ?_ | refine blk_here ?_ | refine blk_past rfl ?_ | refine thn_norm ?_ | refine blk_norm ?_ | refine CW.condT rfl ?_ | refine CW.condF rfl ?_ | (refine hK _ _ ?_; clear hK K))
          first | refine WL.step rfl ?_ | refine WL.gstep rfl rfl rfl rfl ?_
          refine OpW.call ((loadTM h9 _ _ _ _ _ o9 (by omega) c3' c1).mono ?_) rfl
          rintro v w10 ⟨mb', rfl, g10, h10⟩
          have gW10 := gW9.then g10
          replace hb := hb.grow g10
          repeat (first | refine WL.nil ?_ | refine WL.auto (h := ?_) | refine WL.gskip rfl rfl rfl rfl ?_ | refine WL.gauto (h := ?_) | (refine CW.seq ?_; intro K hK) | refine CW.block ?_ | refine CW.region ?_ | refine CW.skip ?_ | refine CW.exit ?_ | refine CW.ret ?_ | (refine thn_ret (K := K) ?_; clear hK K) | refine thn_ret ?_ | refine blk_ret ?_ | (refine thn_exit (K := K) ?_; clear hK K) | refine thn_exit ?_ | refine blk_here ?_ | refine blk_past rfl ?_ | refine thn_norm ?_ | refine blk_norm ?_ | refine CW.condT rfl ?_ | refine CW.condF rfl ?_ | (refine hK _ _ ?_; clear hK K))
          first | refine WL.step rfl ?_ | refine WL.gstep rfl rfl rfl rfl ?_
          refine OpW.call ((armTD h10 o.n).mono ?_) rfl
          rintro v w11 ⟨h11, c11⟩
          have gW11 := base_grow base6 gW10 c11
          replace hb := hb.keep c11 (fun h => h xb3)
          repeat (first | refine WL.nil ?_ | refine WL.auto (h := ?_) | refine WL.gskip rfl rfl rfl rfl ?_ | refine WL.gauto (h := ?_) | (refine CW.seq ?_; intro K hK) | refine CW.block ?_ | refine CW.region ?_ | refine CW.skip ?_ | refine CW.exit ?_ | refine CW.ret ?_ | (refine thn_ret (K := K) ?_; clear hK K) | refine thn_ret ?_ | refine blk_ret ?_ | (refine thn_exit (K := K) ?_; clear hK K) | refine thn_exit ?_ | refine blk_here ?_ | refine blk_past rfl ?_ | refine thn_norm ?_ | refine blk_norm ?_ | refine CW.condT rfl ?_ | refine CW.condF rfl ?_ | (refine hK _ _ ?_; clear hK K))
          first | refine WL.step rfl ?_ | refine WL.gstep rfl rfl rfl rfl ?_
          refine OpW.call ((armTM h11 o.n).mono ?_) rfl
          rintro v w12 ⟨h12, c12⟩
          have gW0 := base_grow base6 gW11 c12
          clear h6 h7 h8 h9 h10 h11 hb hf c1 c2 c3 hN6
          have h0 := h12
          have base0 := base6
          generalize PD.arm ⟨ys.map toPF, false, 0⟩ o.n = d0 at *
          have key' := fun w' np mp d' => key w' db' mb' np mp d'
          generalize db' = db at *
          generalize mb' = mb at *
          generalize X6 = X0 at *
          (
  repeat (first | refine WL.nil ?_ | refine WL.auto (h := ?_) | refine WL.gskip rfl rfl rfl rfl ?_ | refine WL.gskipU rfl rfl rfl rfl ?_ | refine WL.gauto (h := ?_) | (refine CW.seq ?_; intro K hK) | refine CW.block ?_ | refine CW.region ?_ | refine CW.skip ?_ | refine CW.exit ?_ | refine CW.ret ?_ | (refine thn_ret (K := K) ?_; clear hK K) | refine thn_ret ?_ | refine blk_ret ?_ | (refine thn_exit (K := K) ?_; clear hK K) | refine thn_exit ?_ | refine blk_here ?_ | refine blk_past rfl ?_ | refine thn_norm ?_ | refine blk_norm ?_ | refine CW.condT rfl ?_ | refine CW.condF rfl ?_ | (refine hK _ _ ?_; clear hK K))
  first | refine WL.step rfl ?_ | refine WL.gstep rfl rfl rfl rfl ?_
  refine OpW.call ((openP61 h0 hf0 (by omega)).mono ?_) rfl
  rintro v w41 ⟨Z4, np4, RA4, rc4, rfl, y1, h41, c41, hr41, hn41⟩
  have gW41 := base_grow base0 gW0 c41
  have base1 : ∀ b, b < W.heap.size → X0 b ∨ Z4 b := fun b hb => Or.inl (base0 b hb)
  repeat (first | refine WL.nil ?_ | refine WL.auto (h := ?_) | refine WL.gskip rfl rfl rfl rfl ?_ | refine WL.gskipU rfl rfl rfl rfl ?_ | refine WL.gauto (h := ?_) | (refine CW.seq ?_; intro K hK) | refine CW.block ?_ | refine CW.region ?_ | refine CW.skip ?_ | refine CW.exit ?_ | refine CW.ret ?_ | (refine thn_ret (K := K) ?_; clear hK K) | refine thn_ret ?_ | refine blk_ret ?_ | (refine thn_exit (K := K) ?_; clear hK K) | refine thn_exit ?_ | refine blk_here ?_ | refine blk_past rfl ?_ | refine thn_norm ?_ | refine blk_norm ?_ | refine CW.condT rfl ?_ | refine CW.condF rfl ?_ | (refine hK _ _ ?_; clear hK K))
  first | refine WL.step rfl ?_ | refine WL.gstep rfl rfl rfl rfl ?_
  refine OpW.call ((openP65 h41 hf0 (by omega)).mono ?_) rfl
  rintro v w51 ⟨Z5, np5, RA5, rc5, rfl, x1, h51, c51, hr51, hn51⟩
  have gW51 := base_grow base1 gW41 c51
  have hfn := hf0.nopen
  have hfl := found_len hf0
  have zz0 : W.heap.size ≤ w41.heap.size := gW41.size
  repeat (first | refine WL.nil ?_ | refine WL.auto (h := ?_) | refine WL.gskip rfl rfl rfl rfl ?_ | refine WL.gskipU rfl rfl rfl rfl ?_ | refine WL.gauto (h := ?_) | (refine CW.seq ?_; intro K hK) | refine CW.block ?_ | refine CW.region ?_ | refine CW.skip ?_ | refine CW.exit ?_ | refine CW.ret ?_ | (refine thn_ret (K := K) ?_; clear hK K) | refine thn_ret ?_ | refine blk_ret ?_ | (refine thn_exit (K := K) ?_; clear hK K) | refine thn_exit ?_ | refine blk_here ?_ | refine blk_past rfl ?_ | refine thn_norm ?_ | refine blk_norm ?_ | refine CW.condT rfl ?_ | refine CW.condF rfl ?_ | (refine hK _ _ ?_; clear hK K))
  rw [show decide (¬ d0.nopen.2.1 = d0.nopen.2.1) = false from by simp]
  repeat (first | refine WL.nil ?_ | refine WL.auto (h := ?_) | refine WL.gskip rfl rfl rfl rfl ?_ | refine WL.gskipU rfl rfl rfl rfl ?_ | refine WL.gauto (h := ?_) | (refine CW.seq ?_; intro K hK) | refine CW.block ?_ | refine CW.region ?_ | refine CW.skip ?_ | refine CW.exit ?_ | refine CW.ret ?_ | (refine thn_ret (K := K) ?_; clear hK K) | refine thn_ret ?_ | refine blk_ret ?_ | (refine thn_exit (K := K) ?_; clear hK K) | refine thn_exit ?_ | refine blk_here ?_ | refine blk_past rfl ?_ | refine thn_norm ?_ | refine blk_norm ?_ | refine CW.condT rfl ?_ | refine CW.condF rfl ?_ | (refine hK _ _ ?_; clear hK K))
  first | refine WL.step rfl ?_ | refine WL.gstep rfl rfl rfl rfl ?_
  refine OpW.call ((same66 (hr41 _ c51) (hr51 _ (Chg.refl _ _)) (by omega)).mono ?_) rfl
  rintro v w61 ⟨rfl, g61⟩
  rw [decide_eq_true (p := found d0 = found d0) rfl]
  have hnn : np4.isNone = np5.isNone := by
    rcases hn41 with ⟨q1, q2⟩ | ⟨q1, nb, q2, _⟩ <;> rcases hn51 with ⟨q3, q4⟩ | ⟨q3, nb', q4, _⟩ <;> first | (rw [q2, q4]; done) | (rw [q2, q4]; rfl) | (rw [q1] at q3; cases q3)
  have hL : Lives W w61 (20000000 + k) db mb d0.nopen.2.2 np4 np5 := ⟨_, h51.grow g61, fun b hb => Or.inl (base1 b hb), gW51.then g61, by
    rcases hn41 with ⟨q1, q2⟩ | ⟨q1, nb, q2, q5, q6⟩
    · rcases hn51 with ⟨q3, q4⟩ | ⟨q3, nb', q4, _⟩
      · exact Or.inl ⟨q2, q4⟩
      · rw [q1] at q3; cases q3
    · rcases hn51 with ⟨q3, q4⟩ | ⟨q3, nb', q4, q7, q8⟩
      · rw [q1] at q3; cases q3
      · exact Or.inr ⟨nb, nb', (found d0).length, false, q2, q4, Blk.grow (Blk.keep q5 c51 fun h => h (Or.inr q6)) g61, Blk.grow q7 g61, Or.inl (Or.inr q6), Or.inr q8, Nat.le_trans gW0.size (y1 nb q6), Nat.le_trans zz0 (x1 nb' q8), by omega⟩⟩
  repeat (first | refine WL.nil ?_ | refine WL.auto (h := ?_) | refine WL.gskip rfl rfl rfl rfl ?_ | refine WL.gskipU rfl rfl rfl rfl ?_ | refine WL.gauto (h := ?_) | (refine CW.seq ?_; intro K hK) | refine CW.block ?_ | refine CW.region ?_ | refine CW.skip ?_ | refine CW.exit ?_ | refine CW.ret ?_ | (refine thn_ret (K := K) ?_; clear hK K) | refine thn_ret ?_ | refine blk_ret ?_ | (refine thn_exit (K := K) ?_; clear hK K) | refine thn_exit ?_ | refine blk_here ?_ | refine blk_past rfl ?_ | refine thn_norm ?_ | refine blk_norm ?_ | refine CW.condT rfl ?_ | refine CW.condF rfl ?_ | (refine hK _ _ ?_; clear hK K))
  rw [show (!(np4.isNone == np5.isNone)) = false from by rw [hnn]; simp]
  repeat (first | refine WL.nil ?_ | refine WL.auto (h := ?_) | refine WL.gskip rfl rfl rfl rfl ?_ | refine WL.gskipU rfl rfl rfl rfl ?_ | refine WL.gauto (h := ?_) | (refine CW.seq ?_; intro K hK) | refine CW.block ?_ | refine CW.region ?_ | refine CW.skip ?_ | refine CW.exit ?_ | refine CW.ret ?_ | (refine thn_ret (K := K) ?_; clear hK K) | refine thn_ret ?_ | refine blk_ret ?_ | (refine thn_exit (K := K) ?_; clear hK K) | refine thn_exit ?_ | refine blk_here ?_ | refine blk_past rfl ?_ | refine thn_norm ?_ | refine blk_norm ?_ | refine CW.condT rfl ?_ | refine CW.condF rfl ?_ | (refine hK _ _ ?_; clear hK K)))
          exact K_of' (key' w61 np4 np5 _ (hfn.le (by omega)) (hL.le (by omega))) (rep7 rfl rfl rfl rfl rfl rfl rfl)
        rw [decide_eq_false k3]
        repeat (first | refine WL.nil ?_ | refine WL.auto (h := ?_) | refine WL.gskip rfl rfl rfl rfl ?_ | refine WL.gauto (h := ?_) | (refine CW.seq ?_; intro K hK) | refine CW.block ?_ | refine CW.region ?_ | refine CW.skip ?_ | refine CW.exit ?_ | refine CW.ret ?_ | (refine thn_ret (K := K) ?_; clear hK K) | refine thn_ret ?_ | refine blk_ret ?_ | (refine thn_exit (K := K) ?_; clear hK K) | refine thn_exit ?_ | refine blk_here ?_ | refine blk_past rfl ?_ | refine thn_norm ?_ | refine blk_norm ?_ | refine CW.condT rfl ?_ | refine CW.condF rfl ?_ | (refine hK _ _ ?_; clear hK K))
        by_cases k4 : o.kind = 4
        · rw [decide_eq_true k4]
          repeat (first | refine WL.nil ?_ | refine WL.auto (h := ?_) | refine WL.gskip rfl rfl rfl rfl ?_ | refine WL.gauto (h := ?_) | (refine CW.seq ?_; intro K hK) | refine CW.block ?_ | refine CW.region ?_ | refine CW.skip ?_ | refine CW.exit ?_ | refine CW.ret ?_ | (refine thn_ret (K := K) ?_; clear hK K) | refine thn_ret ?_ | refine blk_ret ?_ | (refine thn_exit (K := K) ?_; clear hK K) | refine thn_exit ?_ | refine blk_here ?_ | refine blk_past rfl ?_ | refine thn_norm ?_ | refine blk_norm ?_ | refine CW.condT rfl ?_ | refine CW.condF rfl ?_ | (refine hK _ _ ?_; clear hK K))
          rw [decide_eq_false k3]
          have h0 := h6
          have hf0 := hf
          have gW0 := gW6
          have base0 := base6
          generalize hd0 : d = d0 at *
          generalize X6 = X0 at *
          (
  repeat (first | refine WL.nil ?_ | refine WL.auto (h := ?_) | refine WL.gskip rfl rfl rfl rfl ?_ | refine WL.gskipU rfl rfl rfl rfl ?_ | refine WL.gauto (h := ?_) | (refine CW.seq ?_; intro K hK) | refine CW.block ?_ | refine CW.region ?_ | refine CW.skip ?_ | refine CW.exit ?_ | refine CW.ret ?_ | (refine thn_ret (K := K) ?_; clear hK K) | refine thn_ret ?_ | refine blk_ret ?_ | (refine thn_exit (K := K) ?_; clear hK K) | refine thn_exit ?_ | refine blk_here ?_ | refine blk_past rfl ?_ | refine thn_norm ?_ | refine blk_norm ?_ | refine CW.condT rfl ?_ | refine CW.condF rfl ?_ | (refine hK _ _ ?_; clear hK K))
  first | refine WL.step rfl ?_ | refine WL.gstep rfl rfl rfl rfl ?_
  refine OpW.call ((openP61 h0 hf0 (by omega)).mono ?_) rfl
  rintro v w41 ⟨Z4, np4, RA4, rc4, rfl, y1, h41, c41, hr41, hn41⟩
  have gW41 := base_grow base0 gW0 c41
  have base1 : ∀ b, b < W.heap.size → X0 b ∨ Z4 b := fun b hb => Or.inl (base0 b hb)
  repeat (first | refine WL.nil ?_ | refine WL.auto (h := ?_) | refine WL.gskip rfl rfl rfl rfl ?_ | refine WL.gskipU rfl rfl rfl rfl ?_ | refine WL.gauto (h := ?_) | (refine CW.seq ?_; intro K hK) | refine CW.block ?_ | refine CW.region ?_ | refine CW.skip ?_ | refine CW.exit ?_ | refine CW.ret ?_ | (refine thn_ret (K := K) ?_; clear hK K) | refine thn_ret ?_ | refine blk_ret ?_ | (refine thn_exit (K := K) ?_; clear hK K) | refine thn_exit ?_ | refine blk_here ?_ | refine blk_past rfl ?_ | refine thn_norm ?_ | refine blk_norm ?_ | refine CW.condT rfl ?_ | refine CW.condF rfl ?_ | (refine hK _ _ ?_; clear hK K))
  first | refine WL.step rfl ?_ | refine WL.gstep rfl rfl rfl rfl ?_
  refine OpW.call ((openP65 h41 hf0 (by omega)).mono ?_) rfl
  rintro v w51 ⟨Z5, np5, RA5, rc5, rfl, x1, h51, c51, hr51, hn51⟩
  have gW51 := base_grow base1 gW41 c51
  have hfn := hf0.nopen
  have hfl := found_len hf0
  have zz0 : W.heap.size ≤ w41.heap.size := gW41.size
  repeat (first | refine WL.nil ?_ | refine WL.auto (h := ?_) | refine WL.gskip rfl rfl rfl rfl ?_ | refine WL.gskipU rfl rfl rfl rfl ?_ | refine WL.gauto (h := ?_) | (refine CW.seq ?_; intro K hK) | refine CW.block ?_ | refine CW.region ?_ | refine CW.skip ?_ | refine CW.exit ?_ | refine CW.ret ?_ | (refine thn_ret (K := K) ?_; clear hK K) | refine thn_ret ?_ | refine blk_ret ?_ | (refine thn_exit (K := K) ?_; clear hK K) | refine thn_exit ?_ | refine blk_here ?_ | refine blk_past rfl ?_ | refine thn_norm ?_ | refine blk_norm ?_ | refine CW.condT rfl ?_ | refine CW.condF rfl ?_ | (refine hK _ _ ?_; clear hK K))
  rw [show decide (¬ d0.nopen.2.1 = d0.nopen.2.1) = false from by simp]
  repeat (first | refine WL.nil ?_ | refine WL.auto (h := ?_) | refine WL.gskip rfl rfl rfl rfl ?_ | refine WL.gskipU rfl rfl rfl rfl ?_ | refine WL.gauto (h := ?_) | (refine CW.seq ?_; intro K hK) | refine CW.block ?_ | refine CW.region ?_ | refine CW.skip ?_ | refine CW.exit ?_ | refine CW.ret ?_ | (refine thn_ret (K := K) ?_; clear hK K) | refine thn_ret ?_ | refine blk_ret ?_ | (refine thn_exit (K := K) ?_; clear hK K) | refine thn_exit ?_ | refine blk_here ?_ | refine blk_past rfl ?_ | refine thn_norm ?_ | refine blk_norm ?_ | refine CW.condT rfl ?_ | refine CW.condF rfl ?_ | (refine hK _ _ ?_; clear hK K))
  first | refine WL.step rfl ?_ | refine WL.gstep rfl rfl rfl rfl ?_
  refine OpW.call ((same66 (hr41 _ c51) (hr51 _ (Chg.refl _ _)) (by omega)).mono ?_) rfl
  rintro v w61 ⟨rfl, g61⟩
  rw [decide_eq_true (p := found d0 = found d0) rfl]
  have hnn : np4.isNone = np5.isNone := by
    rcases hn41 with ⟨q1, q2⟩ | ⟨q1, nb, q2, _⟩ <;> rcases hn51 with ⟨q3, q4⟩ | ⟨q3, nb', q4, _⟩ <;> first | (rw [q2, q4]; done) | (rw [q2, q4]; rfl) | (rw [q1] at q3; cases q3)
  have hL : Lives W w61 (20000000 + k) db mb d0.nopen.2.2 np4 np5 := ⟨_, h51.grow g61, fun b hb => Or.inl (base1 b hb), gW51.then g61, by
    rcases hn41 with ⟨q1, q2⟩ | ⟨q1, nb, q2, q5, q6⟩
    · rcases hn51 with ⟨q3, q4⟩ | ⟨q3, nb', q4, _⟩
      · exact Or.inl ⟨q2, q4⟩
      · rw [q1] at q3; cases q3
    · rcases hn51 with ⟨q3, q4⟩ | ⟨q3, nb', q4, q7, q8⟩
      · rw [q1] at q3; cases q3
      · exact Or.inr ⟨nb, nb', (found d0).length, false, q2, q4, Blk.grow (Blk.keep q5 c51 fun h => h (Or.inr q6)) g61, Blk.grow q7 g61, Or.inl (Or.inr q6), Or.inr q8, Nat.le_trans gW0.size (y1 nb q6), Nat.le_trans zz0 (x1 nb' q8), by omega⟩⟩
  repeat (first | refine WL.nil ?_ | refine WL.auto (h := ?_) | refine WL.gskip rfl rfl rfl rfl ?_ | refine WL.gskipU rfl rfl rfl rfl ?_ | refine WL.gauto (h := ?_) | (refine CW.seq ?_; intro K hK) | refine CW.block ?_ | refine CW.region ?_ | refine CW.skip ?_ | refine CW.exit ?_ | refine CW.ret ?_ | (refine thn_ret (K := K) ?_; clear hK K) | refine thn_ret ?_ | refine blk_ret ?_ | (refine thn_exit (K := K) ?_; clear hK K) | refine thn_exit ?_ | refine blk_here ?_ | refine blk_past rfl ?_ | refine thn_norm ?_ | refine blk_norm ?_ | refine CW.condT rfl ?_ | refine CW.condF rfl ?_ | (refine hK _ _ ?_; clear hK K))
  rw [show (!(np4.isNone == np5.isNone)) = false from by rw [hnn]; simp]
  repeat (first | refine WL.nil ?_ | refine WL.auto (h := ?_) | refine WL.gskip rfl rfl rfl rfl ?_ | refine WL.gskipU rfl rfl rfl rfl ?_ | refine WL.gauto (h := ?_) | (refine CW.seq ?_; intro K hK) | refine CW.block ?_ | refine CW.region ?_ | refine CW.skip ?_ | refine CW.exit ?_ | refine CW.ret ?_ | (refine thn_ret (K := K) ?_; clear hK K) | refine thn_ret ?_ | refine blk_ret ?_ | (refine thn_exit (K := K) ?_; clear hK K) | refine thn_exit ?_ | refine blk_here ?_ | refine blk_past rfl ?_ | refine thn_norm ?_ | refine blk_norm ?_ | refine CW.condT rfl ?_ | refine CW.condF rfl ?_ | (refine hK _ _ ?_; clear hK K)))
          exact K_of' (key w61 db mb np4 np5 _ (hfn.le (by omega)) (hL.le (by omega))) (rep7 rfl rfl rfl rfl rfl rfl rfl)
        · rw [decide_eq_false k4]
          repeat (first | refine WL.nil ?_ | refine WL.auto (h := ?_) | refine WL.gskip rfl rfl rfl rfl ?_ | refine WL.gauto (h := ?_) | (refine CW.seq ?_; intro K hK) | refine CW.block ?_ | refine CW.region ?_ | refine CW.skip ?_ | refine CW.exit ?_ | refine CW.ret ?_ | (refine thn_ret (K := K) ?_; clear hK K) | refine thn_ret ?_ | refine blk_ret ?_ | (refine thn_exit (K := K) ?_; clear hK K) | refine thn_exit ?_ | refine blk_here ?_ | refine blk_past rfl ?_ | refine thn_norm ?_ | refine blk_norm ?_ | refine CW.condT rfl ?_ | refine CW.condF rfl ?_ | (refine hK _ _ ?_; clear hK K))
          refine K_of' (key w6 db mb np mp d (hf.le (by omega)) ⟨X6, h6, base6, gW6, hN6.imp id ?_⟩) (rep7 rfl rfl rfl rfl rfl rfl rfl)
          rintro ⟨nb, nbm, c, s, y1, y2, y3, y4, y5, y6, y7, y8, y9, y10, y11⟩
          exact ⟨nb, nbm, c, s, y1, y2, y3, y4, y5, y6, y7, y8, by omega⟩
      · repeat (first | refine WL.nil ?_ | refine WL.auto (h := ?_) | refine WL.gskip rfl rfl rfl rfl ?_ | refine WL.gauto (h := ?_) | (refine CW.seq ?_; intro K hK) | refine CW.block ?_ | refine CW.region ?_ | refine CW.skip ?_ | refine CW.exit ?_ | refine CW.ret ?_ | (refine thn_ret (K := K) ?_; clear hK K) | refine thn_ret ?_ | refine blk_ret ?_ | (refine thn_exit (K := K) ?_; clear hK K) | refine thn_exit ?_ | refine blk_here ?_ | refine blk_past rfl ?_ | refine thn_norm ?_ | refine blk_norm ?_ | refine CW.condT rfl ?_ | refine CW.condF rfl ?_ | (refine hK _ _ ?_; clear hK K))
        obtain ⟨X, h4, base, gW, hN⟩ := hL
        exact out1 (v := .bool true) Try.results20 rfl ⟨rfl, gW⟩ (Or.inr rfl)
end B
end Go.Proofs.Ytlofcomnhecgfaa
/- NodeLives over what its arguments read as. -/
namespace Go.Proofs.Ytlofcomnhecgfaa
namespace B
set_option linter.unusedVariables false
set_option maxRecDepth 100000
section
variable {H : Type} {enc : TypeId × Value → H} {sp : Nat → Bool} {hd : Bool} {W : World} {base b0 : Nat}
theorem reads_NodeLives (W : World) {v0 v1 : Value} {d0 d1 : DataW H} {p0 p1 : List MemPlace}
    (h0 : DataW.Trod enc Try.prog W b0 sp hd 39 v0 d0 p0) (h1 : DataW.Trod enc Try.prog W b0 sp hd 91 v1 d1 p1) (o0 : Value.okWide Try.prog W .any base 39 v0) (o1 : Value.okWide Try.prog W .any base 91 v1) (hb : Rows.uptoBulkAll ([d0, d1] ++ []) ≤ 1048576) :
    Ret Try.prog 20 #[v0, v1] W fun v w' => v = .bool true ∧ Grow W w' := by
  rw [sum2] at hb
  obtain ⟨xs, k1, k2, k3⟩ := arg_files h0 o0
  obtain ⟨ops, q1, q2, q3⟩ := arg_ops7 h1 o1
  obtain ⟨A, cap, rfl, hx⟩ := files_in k1
  exact nlives20 A cap xs _ v1 ops W hx q1 (by omega) (file_sizes (by omega)) (by omega) (by omega)
end
end B
end Go.Proofs.Ytlofcomnhecgfaa
