/- Disks whose blocks are none of X: every call, one disk alone or two side by side. Sizes are bounded. -/
import Derived.Test.YtlofcomnhecgfaaDiskP
namespace Go.Proofs.Ytlofcomnhecgfaa
namespace B
attribute [local irreducible] OpW WL CW Ret Sl Blk thn blk outOf
set_option linter.unusedVariables false
set_option linter.unusedSimpArgs false
set_option maxRecDepth 4000

/-- The blocks of X are nobody's. -/
def Free (X : Nat → Prop) (tag : Nat → Tag) (w : World) : Prop := ∀ k, X k → k < w.heap.size ∧ tag k = .other
def One (X : Nat → Prop) (w : World) (db : Nat) (d : PD) : Prop := ∃ tag, Free X tag w ∧ DiskRep tag w db d
def Two (X : Nat → Prop) (w : World) (db : Nat) (d : PD) (mb : Nat) (m : PD) : Prop := ∃ tag, Free X tag w ∧ DiskRep tag w db d ∧ RefRep tag w mb m
theorem Tag.impl_ref {t : Tag} (h : t.impl = true) : t.ref = false := by cases t <;> first | rfl | exact Bool.noConfusion h
theorem Tag.ref_impl {t : Tag} (h : t.ref = true) : ¬ t.impl = true := by cases t <;> first | exact Bool.noConfusion h | (intro h; exact Bool.noConfusion h)
section
variable {X X' : Nat → Prop} {tag tag' : Nat → Tag} {w w' : World} {db mb : Nat} {d d' m m' : PD}
theorem Free.step (h : Free X tag w) (ht : ∀ k, k < w.heap.size → tag' k = tag k) (hs : w.heap.size ≤ w'.heap.size) : Free X tag' w' := fun k hk => by
  obtain ⟨h1, h2⟩ := h k hk
  exact ⟨Nat.lt_of_lt_of_le h1 hs, by rw [ht k h1, h2]⟩
theorem Free.impl (h : Free X tag w) {S : Nat → Prop} (hc : Chg (fun b => (tag b).impl = true) w w') : Chg (fun k => ¬ X k) w w' := hc.mono fun k _ hk hx => by
  rw [(h k hx).2] at hk; cases hk
theorem Free.ref (h : Free X tag w) {S : Nat → Prop} (hc : Chg (fun b => (tag b).ref = true) w w') : Chg (fun k => ¬ X k) w w' := hc.mono fun k _ hk hx => by
  rw [(h k hx).2] at hk; cases hk
theorem DiskRep.grow (h : DiskRep tag w db d) (g : Grow w w') : DiskRep tag w' db d := by
  obtain ⟨FA, fcap, fs, h⟩ := h
  exact ⟨FA, fcap, fs, h.grow g⟩
theorem RefRep.grow (h : RefRep tag w mb m) (g : Grow w w') : RefRep tag w' mb m := by
  obtain ⟨RA, rcap, rc, h⟩ := h
  exact ⟨RA, rcap, rc, h.grow g⟩
theorem DiskRep.retag (h : DiskRep tag w db d) (ht : ∀ k, k < w.heap.size → tag' k = tag k) : DiskRep tag' w db d := by
  obtain ⟨FA, fcap, fs, h⟩ := h
  exact ⟨FA, fcap, fs, h.retag ht⟩
theorem RefRep.retag (h : RefRep tag w mb m) (ht : ∀ k, k < w.heap.size → tag' k = tag k) : RefRep tag' w mb m := by
  obtain ⟨RA, rcap, rc, h⟩ := h
  exact ⟨RA, rcap, rc, h.retag ht⟩
/-- Calls that only make memory leave a disk; new blocks become X's. -/
theorem Free.more (h : Free X tag w) (g : Grow w w') : Free (fun k => X k ∨ w.heap.size ≤ k ∧ k < w'.heap.size) (fun k => if k < w.heap.size then tag k else .other) w' := fun k hk => by
  have hs := g.size
  rcases hk with hk | hk
  · obtain ⟨h1, h2⟩ := h k hk
    exact ⟨by omega, by simp only [h1, if_true]; exact h2⟩
  · exact ⟨hk.2, by simp only [show ¬ k < w.heap.size from by omega, if_false]⟩
theorem One.grow (h : One X w db d) (g : Grow w w') : One X w' db d := by
  obtain ⟨tag, h1, h2⟩ := h
  exact ⟨tag, h1.step (fun _ _ => rfl) g.size, h2.grow g⟩
theorem One.less (h : One X w db d) (hx : ∀ k, X' k → X k) : One X' w db d := by
  obtain ⟨tag, h1, h2⟩ := h
  exact ⟨tag, fun k hk => h1 k (hx k hk), h2⟩
theorem One.more (h : One X w db d) (g : Grow w w') : One (fun k => X k ∨ w.heap.size ≤ k ∧ k < w'.heap.size) w' db d := by
  obtain ⟨tag, h1, h2⟩ := h
  exact ⟨_, h1.more g, (h2.retag fun k hk => if_pos hk).grow g⟩
theorem One.lt (h : One X w db d) {k : Nat} (hk : X k) : k < w.heap.size := by
  obtain ⟨tag, h1, h2⟩ := h
  exact (h1 k hk).1
/-- The disk's own blocks may change: what is neither X's nor new. -/
theorem One.keep (h : One X w db d) (hc : Chg X w w') : One X w' db d := by
  obtain ⟨tag, h1, ⟨FA, fcap, fs, h2⟩⟩ := h
  exact ⟨tag, h1.step (fun _ _ => rfl) hc.size, FA, fcap, fs, h2.keep hc fun b hb hx => by rw [(h1 b hx).2] at hb; cases hb⟩
theorem Two.grow (h : Two X w db d mb m) (g : Grow w w') : Two X w' db d mb m := by
  obtain ⟨tag, h1, h2, h3⟩ := h
  exact ⟨tag, h1.step (fun _ _ => rfl) g.size, h2.grow g, h3.grow g⟩
theorem Two.less (h : Two X w db d mb m) (hx : ∀ k, X' k → X k) : Two X' w db d mb m := by
  obtain ⟨tag, h1, h2⟩ := h
  exact ⟨tag, fun k hk => h1 k (hx k hk), h2⟩
theorem Two.more (h : Two X w db d mb m) (g : Grow w w') : Two (fun k => X k ∨ w.heap.size ≤ k ∧ k < w'.heap.size) w' db d mb m := by
  obtain ⟨tag, h1, h2, h3⟩ := h
  exact ⟨_, h1.more g, (h2.retag fun k hk => if_pos hk).grow g, (h3.retag fun k hk => if_pos hk).grow g⟩
theorem Two.lt (h : Two X w db d mb m) {k : Nat} (hk : X k) : k < w.heap.size := by
  obtain ⟨tag, h1, h2⟩ := h
  exact (h1 k hk).1
theorem Two.keep (h : Two X w db d mb m) (hc : Chg X w w') : Two X w' db d mb m := by
  obtain ⟨tag, h1, ⟨FA, fcap, fs, h2⟩, ⟨RA, rcap, rc, h3⟩⟩ := h
  exact ⟨tag, h1.step (fun _ _ => rfl) hc.size, ⟨FA, fcap, fs, h2.keep hc fun b hb hx => by rw [(h1 b hx).2] at hb; cases hb⟩, RA, rcap, rc, h3.keep hc fun b hb hx => by rw [(h1 b hx).2] at hb; cases hb⟩
theorem Two.one (h : Two X w db d mb m) : One X w db d := by
  obtain ⟨tag, h1, h2, h3⟩ := h
  exact ⟨tag, h1, h2⟩
/-- What was the disk's is left alone from now on. -/
theorem One.newM (h : One X w db d) (n : New w w' mb (.cells #[.slice none 0 0, .bool false, .int .i64 0] 79)) : Two X w' db d mb ⟨[], false, 0⟩ := by
  obtain ⟨tag, h1, h2⟩ := h
  refine ⟨fun k => if k < w.heap.size then tag k else .rdisk, h1.step (fun k hk => if_pos hk) n.grow.size, (h2.retag fun k hk => if_pos hk).grow n.grow, none, 0, [], ?_⟩
  exact ⟨by show (if _ then _ else _) = _; rw [if_neg (by have := n.fresh; omega)], n.blk, Own.nil _ _ _ _, fun i f h => by simp at h⟩
theorem One.of_new (hX : ∀ k, X k → k < w.heap.size) (n : New w w' db (.cells #[.slice none 0 0, .bool false, .int .i64 0] 102)) : One X w' db ⟨[], false, 0⟩ := by
  refine ⟨fun k => if k < w.heap.size then .other else .disk, fun k hk => ⟨by have := hX k hk; have := n.grow.size; omega, if_pos (hX k hk)⟩, none, 0, [], ?_⟩
  exact ⟨by show (if _ then _ else _) = _; rw [if_neg (by have := n.fresh; omega)], n.blk, Own.nil _ _ _ _, rfl, fun i f fb h => by simp at h⟩
theorem One.went (h : Free X tag w) (hw : Went tag w w' db d') : One X w' db d' ∧ Chg (fun k => ¬ X k) w w' := by
  obtain ⟨tag', h1, h2, h3⟩ := hw
  exact ⟨⟨tag', h.step h1 h3.size, h2⟩, h.impl (S := X) h3⟩
theorem Two.onD (h : Free X tag w) (hr : RefRep tag w mb m) (hw : Went tag w w' db d') : Two X w' db d' mb m ∧ Chg (fun k => ¬ X k) w w' := by
  obtain ⟨tag', h1, h2, h3⟩ := hw
  obtain ⟨RA, rcap, rc, h4⟩ := hr
  have h3' := h3.mono (T := fun k => k < w.heap.size ∧ (tag k).impl = true) fun k hk hs => ⟨hk, hs⟩
  refine ⟨⟨tag', h.step h1 h3.size, h2, ⟨RA, rcap, rc, (h4.retag h1).keep h3' fun b hb hi => ?_⟩⟩, h.impl (S := X) h3⟩
  rw [h1 b hi.1] at hb
  exact Tag.ref_impl hb hi.2
theorem Two.onM (h : Free X tag w) (hr : DiskRep tag w db d) (hw : WentR tag w w' mb m') : Two X w' db d mb m' ∧ Chg (fun k => ¬ X k) w w' := by
  obtain ⟨tag', h1, h2, h3⟩ := hw
  obtain ⟨FA, fcap, fs, h4⟩ := hr
  have h3' := h3.mono (T := fun k => k < w.heap.size ∧ (tag k).ref = true) fun k hk hs => ⟨hk, hs⟩
  refine ⟨⟨tag', h.step h1 h3.size, ⟨FA, fcap, fs, (h4.retag h1).keep h3' fun b hb hi => ?_⟩, h2⟩, h.ref (S := X) h3⟩
  rw [h1 b hi.1] at hb
  exact Tag.ref_impl hi.2 hb
theorem freshen {xs : List (List UInt8 × List UInt8)} {OA : Option Addr} {cap : Nat} {col : Nat → Bool} (ho : FilesOut w' OA cap xs (fun b => w.heap.size ≤ b ∧ col b = true) (fun b => w.heap.size ≤ b ∧ col b = false)) : FilesIn w' OA xs (fresh w) := by
  obtain ⟨cells, y1, y2, y3, y4⟩ := ho.in_
  refine ⟨cells, y1, fun hne a ha => (y2 hne a ha).elim And.left And.left, y3, fun i x hx => ?_⟩
  obtain ⟨DA, c, z1, z2, z3, z4⟩ := y4 i x hx
  exact ⟨DA, c, z1, z2, fun hne a ha => (z3 hne a ha).elim And.left And.left, z4⟩
theorem appendTD {M : Nat} (h : Two X w db d mb m) (s b : List UInt8) (B : Option Addr) (bcap : Nat) (hf : Fit d M) (hM : M ≤ 1099511627776) (hs : s.length ≤ 1099511627776) (hb : Sl w B (bvs b)) (hB : b ≠ [] → ∀ a, B = some a → X a.block) (hbl : b.length ≤ 1099511627776) :
    Ret Try.prog 33 #[.pointer (some ⟨db, 0, none⟩), .string (bstr s), .slice B b.length bcap] w fun v w' => v = .int .i64 (d.append s b).1 ∧ Two X w' db ((d.append s b).2) mb m ∧ Chg (fun k => ¬ X k) w w' := by
  obtain ⟨tag, h1, ⟨FA, fcap, fs, h2⟩, h3⟩ := h
  refine (append33 tag db d s b B bcap w ⟨FA, fcap, fs, h2⟩ hf.arm hf.good.len hs hb (fun hne a ha => by rw [(h1 _ (hB hne a ha)).2]; rfl) hbl (hf.dat' hM)).mono ?_
  rintro v w1 ⟨hv, hw⟩
  exact ⟨hv, Two.onD h1 h3 hw⟩
theorem syncTD {M : Nat} (h : Two X w db d mb m) (s : List UInt8) (hf : Fit d M) :
    Ret Try.prog 41 #[.pointer (some ⟨db, 0, none⟩), .string (bstr s)] w fun v w' => v = .int .i64 (d.sync s).1 ∧ Two X w' db ((d.sync s).2) mb m ∧ Chg (fun k => ¬ X k) w w' := by
  obtain ⟨tag, h1, ⟨FA, fcap, fs, h2⟩, h3⟩ := h
  refine (sync41 tag db FA fcap fs d s w h2 hf.arm hf.good.len).mono ?_
  rintro v w1 ⟨hv, h5, h6⟩
  exact ⟨hv, Two.onD h1 h3 ⟨tag, fun _ _ => rfl, ⟨FA, fcap, fs, h5⟩, h6⟩⟩
theorem truncateTD {M : Nat} (h : Two X w db d mb m) (s : List UInt8) (n : Int) (hf : Fit d M) :
    Ret Try.prog 56 #[.pointer (some ⟨db, 0, none⟩), .string (bstr s), .int .i64 n] w fun v w' => v = .int .i64 (d.truncate s n).1 ∧ Two X w' db ((d.truncate s n).2) mb m ∧ Chg (fun k => ¬ X k) w w' := by
  obtain ⟨tag, h1, ⟨FA, fcap, fs, h2⟩, h3⟩ := h
  refine (truncate56 tag db FA fcap fs d s n w h2 hf.arm hf.good.len).mono ?_
  rintro v w1 ⟨hv, h5, h6⟩
  exact ⟨hv, Two.onD h1 h3 ⟨tag, fun _ _ => rfl, ⟨FA, fcap, fs, h5⟩, h6⟩⟩
theorem armTD (h : Two X w db d mb m) (n : Int) :
    Ret Try.prog 32 #[.pointer (some ⟨db, 0, none⟩), .int .i64 n] w fun v w' => Two X w' db (d.arm n) mb m ∧ Chg (fun k => ¬ X k) w w' := by
  obtain ⟨tag, h1, ⟨FA, fcap, fs, h2⟩, h3⟩ := h
  refine (arm32 tag db FA fcap fs d n w h2).mono ?_
  rintro v w1 ⟨h5, h6⟩
  exact Two.onD h1 h3 ⟨tag, fun _ _ => rfl, ⟨FA, fcap, fs, h5⟩, h2.toImpl h6⟩
theorem downTD (h : Two X w db d mb m) :
    Ret Try.prog 34 #[.pointer (some ⟨db, 0, none⟩)] w fun v w' => v = .bool d.off ∧ Grow w w' := by
  obtain ⟨tag, h1, ⟨FA, fcap, fs, h2⟩, h3⟩ := h
  exact down34 tag db FA fcap fs d w h2
theorem readTD {M : Nat} (h : Two X w db d mb m) (s : List UInt8) (hf : Fit d M) (hM : M ≤ 1099511627776) :
    Ret Try.prog 42 #[.pointer (some ⟨db, 0, none⟩), .string (bstr s)] w fun v w' => Grow w w' ∧ ∃ A cap, v = .tuple #[.slice A (d.read s).1.length cap, .int .i64 (d.read s).2] ∧ Own w' A 5 1 (d.read s).1.length cap (bvs (d.read s).1) (fresh w) := by
  obtain ⟨tag, h1, ⟨FA, fcap, fs, h2⟩, h3⟩ := h
  exact read42 tag db FA fcap fs d s w h2 hf.good.len (hf.dat' hM)
theorem waitingTD {M : Nat} (h : Two X w db d mb m) (hf : Fit d M) (hM : M ≤ 1099511627776) :
    Ret Try.prog 40 #[.pointer (some ⟨db, 0, none⟩)] w fun v w' => Grow w w' ∧ v = .int .i64 (waitOf d.files) := by
  obtain ⟨tag, h1, ⟨FA, fcap, fs, h2⟩, h3⟩ := h
  exact waiting40 tag db FA fcap fs d w h2 hf.good.len (hf.both hM)
theorem crashTD {M : Nat} (h : Two X w db d mb m) (KA0 : Option Addr) (kcap0 : Nat) (ks : List Bool) (hf : Fit d M) (hM : M ≤ 1099511627776) (hk : Sl w KA0 (ks.map .bool)) (hkl : ks.length ≤ 1099511627776) (hkc : ks.length ≤ kcap0) :
    Ret Try.prog 38 #[.pointer (some ⟨db, 0, none⟩), .slice KA0 ks.length kcap0] w fun v w' => Grow w w' ∧ ∃ (OA : Option Addr) (cap : Nat), v = .slice OA (crashAll d.files ks).1.length cap ∧ FilesIn w' OA (crashAll d.files ks).1 (fresh w) := by
  obtain ⟨tag, h1, ⟨FA, fcap, fs, h2⟩, h3⟩ := h
  refine (crash38 tag db FA fcap fs d KA0 kcap0 ks w h2 hf.good.len (hf.both hM) hk hkl hkc).mono ?_
  rintro v w1 ⟨g1, OA, cap, col, hv, ho⟩
  exact ⟨g1, OA, cap, hv, freshen ho⟩
/-- A disk made anew in its place. -/
theorem loadTD (h : Two X w db d mb m) (A : Option Addr) (cap : Nat) (xs : List (List UInt8 × List UInt8)) (Z : Nat → Prop) (l : List PF) (hx : FilesIn w A xs Z) (hl : xs.length ≤ 1099511627776) (hs : ∀ x ∈ xs, x.1.length ≤ 1099511627776 ∧ x.2.length ≤ 1099511627776) (hg : loadGo [] xs = some l) :
    Ret Try.prog 35 #[.slice A xs.length cap] w fun v w' => ∃ db', v = .tuple #[.pointer (some ⟨db', 0, none⟩), .int .i64 0] ∧ Grow w w' ∧ Two X w' db' ⟨l, false, 0⟩ mb m := by
  obtain ⟨tag, h1, ⟨FA, fcap, fs, h2⟩, h3⟩ := h
  refine (load35 tag A cap xs Z w hx hl hs).mono ?_
  rintro v w1 ⟨g1, hL⟩
  rw [hg] at hL
  obtain ⟨db', tag', rfl, ht, hd⟩ := hL
  exact ⟨db', rfl, g1, tag', h1.step ht g1.size, hd, (h3.retag ht).grow g1⟩
theorem appendOD {M : Nat} (h : One X w db d) (s b : List UInt8) (B : Option Addr) (bcap : Nat) (hf : Fit d M) (hM : M ≤ 1099511627776) (hs : s.length ≤ 1099511627776) (hb : Sl w B (bvs b)) (hB : b ≠ [] → ∀ a, B = some a → X a.block) (hbl : b.length ≤ 1099511627776) :
    Ret Try.prog 33 #[.pointer (some ⟨db, 0, none⟩), .string (bstr s), .slice B b.length bcap] w fun v w' => v = .int .i64 (d.append s b).1 ∧ One X w' db ((d.append s b).2) ∧ Chg (fun k => ¬ X k) w w' := by
  obtain ⟨tag, h1, ⟨FA, fcap, fs, h2⟩⟩ := h
  refine (append33 tag db d s b B bcap w ⟨FA, fcap, fs, h2⟩ hf.arm hf.good.len hs hb (fun hne a ha => by rw [(h1 _ (hB hne a ha)).2]; rfl) hbl (hf.dat' hM)).mono ?_
  rintro v w1 ⟨hv, hw⟩
  exact ⟨hv, One.went h1 hw⟩
theorem syncOD {M : Nat} (h : One X w db d) (s : List UInt8) (hf : Fit d M) :
    Ret Try.prog 41 #[.pointer (some ⟨db, 0, none⟩), .string (bstr s)] w fun v w' => v = .int .i64 (d.sync s).1 ∧ One X w' db ((d.sync s).2) ∧ Chg (fun k => ¬ X k) w w' := by
  obtain ⟨tag, h1, ⟨FA, fcap, fs, h2⟩⟩ := h
  refine (sync41 tag db FA fcap fs d s w h2 hf.arm hf.good.len).mono ?_
  rintro v w1 ⟨hv, h5, h6⟩
  exact ⟨hv, One.went h1 ⟨tag, fun _ _ => rfl, ⟨FA, fcap, fs, h5⟩, h6⟩⟩
theorem truncateOD {M : Nat} (h : One X w db d) (s : List UInt8) (n : Int) (hf : Fit d M) :
    Ret Try.prog 56 #[.pointer (some ⟨db, 0, none⟩), .string (bstr s), .int .i64 n] w fun v w' => v = .int .i64 (d.truncate s n).1 ∧ One X w' db ((d.truncate s n).2) ∧ Chg (fun k => ¬ X k) w w' := by
  obtain ⟨tag, h1, ⟨FA, fcap, fs, h2⟩⟩ := h
  refine (truncate56 tag db FA fcap fs d s n w h2 hf.arm hf.good.len).mono ?_
  rintro v w1 ⟨hv, h5, h6⟩
  exact ⟨hv, One.went h1 ⟨tag, fun _ _ => rfl, ⟨FA, fcap, fs, h5⟩, h6⟩⟩
theorem armOD (h : One X w db d) (n : Int) :
    Ret Try.prog 32 #[.pointer (some ⟨db, 0, none⟩), .int .i64 n] w fun v w' => One X w' db (d.arm n) ∧ Chg (fun k => ¬ X k) w w' := by
  obtain ⟨tag, h1, ⟨FA, fcap, fs, h2⟩⟩ := h
  refine (arm32 tag db FA fcap fs d n w h2).mono ?_
  rintro v w1 ⟨h5, h6⟩
  exact One.went h1 ⟨tag, fun _ _ => rfl, ⟨FA, fcap, fs, h5⟩, h2.toImpl h6⟩
theorem downOD (h : One X w db d) :
    Ret Try.prog 34 #[.pointer (some ⟨db, 0, none⟩)] w fun v w' => v = .bool d.off ∧ Grow w w' := by
  obtain ⟨tag, h1, ⟨FA, fcap, fs, h2⟩⟩ := h
  exact down34 tag db FA fcap fs d w h2
theorem readOD {M : Nat} (h : One X w db d) (s : List UInt8) (hf : Fit d M) (hM : M ≤ 1099511627776) :
    Ret Try.prog 42 #[.pointer (some ⟨db, 0, none⟩), .string (bstr s)] w fun v w' => Grow w w' ∧ ∃ A cap, v = .tuple #[.slice A (d.read s).1.length cap, .int .i64 (d.read s).2] ∧ Own w' A 5 1 (d.read s).1.length cap (bvs (d.read s).1) (fresh w) := by
  obtain ⟨tag, h1, ⟨FA, fcap, fs, h2⟩⟩ := h
  exact read42 tag db FA fcap fs d s w h2 hf.good.len (hf.dat' hM)
theorem waitingOD {M : Nat} (h : One X w db d) (hf : Fit d M) (hM : M ≤ 1099511627776) :
    Ret Try.prog 40 #[.pointer (some ⟨db, 0, none⟩)] w fun v w' => Grow w w' ∧ v = .int .i64 (waitOf d.files) := by
  obtain ⟨tag, h1, ⟨FA, fcap, fs, h2⟩⟩ := h
  exact waiting40 tag db FA fcap fs d w h2 hf.good.len (hf.both hM)
theorem crashOD {M : Nat} (h : One X w db d) (KA0 : Option Addr) (kcap0 : Nat) (ks : List Bool) (hf : Fit d M) (hM : M ≤ 1099511627776) (hk : Sl w KA0 (ks.map .bool)) (hkl : ks.length ≤ 1099511627776) (hkc : ks.length ≤ kcap0) :
    Ret Try.prog 38 #[.pointer (some ⟨db, 0, none⟩), .slice KA0 ks.length kcap0] w fun v w' => Grow w w' ∧ ∃ (OA : Option Addr) (cap : Nat), v = .slice OA (crashAll d.files ks).1.length cap ∧ FilesIn w' OA (crashAll d.files ks).1 (fresh w) := by
  obtain ⟨tag, h1, ⟨FA, fcap, fs, h2⟩⟩ := h
  refine (crash38 tag db FA fcap fs d KA0 kcap0 ks w h2 hf.good.len (hf.both hM) hk hkl hkc).mono ?_
  rintro v w1 ⟨g1, OA, cap, col, hv, ho⟩
  exact ⟨g1, OA, cap, hv, freshen ho⟩
/-- A disk made anew in its place. -/
theorem loadOD (h : One X w db d) (A : Option Addr) (cap : Nat) (xs : List (List UInt8 × List UInt8)) (Z : Nat → Prop) (l : List PF) (hx : FilesIn w A xs Z) (hl : xs.length ≤ 1099511627776) (hs : ∀ x ∈ xs, x.1.length ≤ 1099511627776 ∧ x.2.length ≤ 1099511627776) (hg : loadGo [] xs = some l) :
    Ret Try.prog 35 #[.slice A xs.length cap] w fun v w' => ∃ db', v = .tuple #[.pointer (some ⟨db', 0, none⟩), .int .i64 0] ∧ Grow w w' ∧ One X w' db' ⟨l, false, 0⟩ := by
  obtain ⟨tag, h1, ⟨FA, fcap, fs, h2⟩⟩ := h
  refine (load35 tag A cap xs Z w hx hl hs).mono ?_
  rintro v w1 ⟨g1, hL⟩
  rw [hg] at hL
  obtain ⟨db', tag', rfl, ht, hd⟩ := hL
  exact ⟨db', rfl, g1, tag', h1.step ht g1.size, hd⟩
theorem appendTM {M : Nat} (h : Two X w db d mb m) (s b : List UInt8) (B : Option Addr) (bcap : Nat) (hf : Fit m M) (hM : M ≤ 1099511627776) (hs : s.length ≤ 1099511627776) (hb : Sl w B (bvs b)) (hB : b ≠ [] → ∀ a, B = some a → X a.block) (hbl : b.length ≤ 1099511627776) :
    Ret Try.prog 83 #[.pointer (some ⟨mb, 0, none⟩), .string (bstr s), .slice B b.length bcap] w fun v w' => v = .int .i64 (m.append s b).1 ∧ Two X w' db d mb ((m.append s b).2) ∧ Chg (fun k => ¬ X k) w w' := by
  obtain ⟨tag, h1, h2, ⟨RA, rcap, rc, h3⟩⟩ := h
  refine (rappend83 tag mb m s b B bcap w ⟨RA, rcap, rc, h3⟩ hf.arm hf.good.len hs hb (fun hne a ha => by rw [(h1 _ (hB hne a ha)).2]; rfl) hbl (hf.dat' hM)).mono ?_
  rintro v w1 ⟨hv, hw⟩
  exact ⟨hv, Two.onM h1 h2 hw⟩
theorem syncTM {M : Nat} (h : Two X w db d mb m) (s : List UInt8) (hf : Fit m M) :
    Ret Try.prog 84 #[.pointer (some ⟨mb, 0, none⟩), .string (bstr s)] w fun v w' => v = .int .i64 (m.sync s).1 ∧ Two X w' db d mb ((m.sync s).2) ∧ Chg (fun k => ¬ X k) w w' := by
  obtain ⟨tag, h1, h2, ⟨RA, rcap, rc, h3⟩⟩ := h
  refine (rsync84 tag mb RA rcap rc m s w h3 hf.arm hf.good.len).mono ?_
  rintro v w1 ⟨hv, h5, h6⟩
  exact ⟨hv, Two.onM h1 h2 ⟨tag, fun _ _ => rfl, h5, h6⟩⟩
theorem truncateTM {M : Nat} (h : Two X w db d mb m) (s : List UInt8) (n : Int) (hf : Fit m M) :
    Ret Try.prog 85 #[.pointer (some ⟨mb, 0, none⟩), .string (bstr s), .int .i64 n] w fun v w' => v = .int .i64 (m.truncate s n).1 ∧ Two X w' db d mb ((m.truncate s n).2) ∧ Chg (fun k => ¬ X k) w w' := by
  obtain ⟨tag, h1, h2, ⟨RA, rcap, rc, h3⟩⟩ := h
  refine (rtruncate85 tag mb RA rcap rc m s n w h3 hf.arm hf.good.len).mono ?_
  rintro v w1 ⟨hv, h5, h6⟩
  exact ⟨hv, Two.onM h1 h2 ⟨tag, fun _ _ => rfl, h5, h6⟩⟩
theorem armTM (h : Two X w db d mb m) (n : Int) :
    Ret Try.prog 68 #[.pointer (some ⟨mb, 0, none⟩), .int .i64 n] w fun v w' => Two X w' db d mb (m.arm n) ∧ Chg (fun k => ¬ X k) w w' := by
  obtain ⟨tag, h1, h2, ⟨RA, rcap, rc, h3⟩⟩ := h
  refine (arm68 tag mb RA rcap rc m n w h3).mono ?_
  rintro v w1 ⟨h5, h6⟩
  exact Two.onM h1 h2 ⟨tag, fun _ _ => rfl, ⟨_, _, _, h5⟩, h3.toRef h6⟩
theorem readTM {M : Nat} (h : Two X w db d mb m) (s : List UInt8) (hf : Fit m M) (hM : M ≤ 1099511627776) :
    Ret Try.prog 86 #[.pointer (some ⟨mb, 0, none⟩), .string (bstr s)] w fun v w' => Grow w w' ∧ ∃ A cap, v = .tuple #[.slice A (m.read s).1.length cap, .int .i64 (m.read s).2] ∧ Own w' A 5 1 (m.read s).1.length cap (bvs (m.read s).1) (fresh w) := by
  obtain ⟨tag, h1, h2, ⟨RA, rcap, rc, h3⟩⟩ := h
  exact rread86 tag mb RA rcap rc m s w h3 hf.good.len (hf.dat' hM)
theorem waitingTM {M : Nat} (h : Two X w db d mb m) (hf : Fit m M) (hM : M ≤ 1099511627776) :
    Ret Try.prog 58 #[.pointer (some ⟨mb, 0, none⟩)] w fun v w' => Grow w w' ∧ v = .int .i64 (waitOf m.files) := by
  obtain ⟨tag, h1, h2, ⟨RA, rcap, rc, h3⟩⟩ := h
  exact waiting58 tag mb RA rcap rc m w h3 hf.good.len (hf.both hM)
theorem crashTM {M : Nat} (h : Two X w db d mb m) (KA0 : Option Addr) (kcap0 : Nat) (ks : List Bool) (hf : Fit m M) (hM : M ≤ 1099511627776) (hk : Sl w KA0 (ks.map .bool)) (hkl : ks.length ≤ 1099511627776) :
    Ret Try.prog 39 #[.pointer (some ⟨mb, 0, none⟩), .slice KA0 ks.length kcap0] w fun v w' => Grow w w' ∧ ∃ (OA : Option Addr) (cap : Nat), v = .slice OA (crashAll m.files ks).1.length cap ∧ FilesIn w' OA (crashAll m.files ks).1 (fresh w) := by
  obtain ⟨tag, h1, h2, ⟨RA, rcap, rc, h3⟩⟩ := h
  exact rcrash39 tag mb RA rcap rc m KA0 kcap0 ks w h3 hf.good.len (hf.both hM) hk hkl
theorem loadTM (h : Two X w db d mb m) (A : Option Addr) (cap : Nat) (xs : List (List UInt8 × List UInt8)) (Z : Nat → Prop) (l : List PF) (hx : FilesIn w A xs Z) (hl : xs.length ≤ 1099511627776) (hs : ∀ x ∈ xs, x.1.length ≤ 1099511627776 ∧ x.2.length ≤ 1099511627776) (hg : loadGo [] xs = some l) :
    Ret Try.prog 36 #[.slice A xs.length cap] w fun v w' => ∃ mb', v = .tuple #[.pointer (some ⟨mb', 0, none⟩), .int .i64 0] ∧ Grow w w' ∧ Two X w' db d mb' ⟨l, false, 0⟩ := by
  obtain ⟨tag, h1, h2, ⟨RA, rcap, rc, h3⟩⟩ := h
  refine (rload36 tag A cap xs Z w hx hl hs).mono ?_
  rintro v w1 ⟨g1, hL⟩
  rw [hg] at hL
  obtain ⟨mb', tag', rfl, ht, hd⟩ := hL
  exact ⟨mb', rfl, g1, tag', h1.step ht g1.size, (h2.retag ht).grow g1, hd⟩
theorem blkM (h : Two X w db d mb m) : ∃ RA rcap, Blk w mb #[.slice RA m.files.length rcap, .bool m.off, .int .i64 (m.armed : Int)] 79 ∧ ¬ X mb := by
  obtain ⟨tag, h1, h2, ⟨RA, rcap, rc, h3⟩⟩ := h
  exact ⟨RA, rcap, h3.blk, fun hx => by have := (h1 mb hx).2; rw [h3.tg] at this; cases this⟩
/-- A disk is made of these files, or they are refused. -/
theorem loadOne (hX : ∀ k, X k → k < w.heap.size) (A : Option Addr) (cap : Nat) (xs : List (List UInt8 × List UInt8)) (Z : Nat → Prop) (hx : FilesIn w A xs Z) (hl : xs.length ≤ 1099511627776) (hs : ∀ x ∈ xs, x.1.length ≤ 1099511627776 ∧ x.2.length ≤ 1099511627776) :
    Ret Try.prog 35 #[.slice A xs.length cap] w fun v w1 => Grow w w1 ∧ (loadGo [] xs = none → v = .tuple #[.pointer none, .int .i64 50]) ∧ (∀ l, loadGo [] xs = some l → ∃ db, v = .tuple #[.pointer (some ⟨db, 0, none⟩), .int .i64 0] ∧ One X w1 db ⟨l, false, 0⟩) := by
  refine (load35 (fun _ => .other) A cap xs Z w hx hl hs).mono ?_
  rintro v w1 ⟨g1, hL⟩
  refine ⟨g1, fun hn => ?_, fun l hg => ?_⟩
  · rw [hn] at hL; exact hL
  · rw [hg] at hL
    obtain ⟨db, tag', rfl, ht, hd⟩ := hL
    exact ⟨db, rfl, tag', fun k hk => ⟨by have := hX k hk; have := g1.size; omega, by rw [ht k (hX k hk)]⟩, hd⟩
/-- The document's disk is made of these files beside another, or they are refused. -/
theorem loadRef (h : One X w db d) (A : Option Addr) (cap : Nat) (xs : List (List UInt8 × List UInt8)) (Z : Nat → Prop) (hx : FilesIn w A xs Z) (hl : xs.length ≤ 1099511627776) (hs : ∀ x ∈ xs, x.1.length ≤ 1099511627776 ∧ x.2.length ≤ 1099511627776) :
    Ret Try.prog 36 #[.slice A xs.length cap] w fun v w1 => Grow w w1 ∧ (loadGo [] xs = none → ∃ mb, v = .tuple #[.pointer (some ⟨mb, 0, none⟩), .int .i64 50]) ∧ (∀ l, loadGo [] xs = some l → ∃ mb, v = .tuple #[.pointer (some ⟨mb, 0, none⟩), .int .i64 0] ∧ Two X w1 db d mb ⟨l, false, 0⟩) := by
  obtain ⟨tag, h1, h2⟩ := h
  refine (rload36 tag A cap xs Z w hx hl hs).mono ?_
  rintro v w1 ⟨g1, hL⟩
  refine ⟨g1, fun hn => ?_, fun l hg => ?_⟩
  · rw [hn] at hL; exact hL
  · rw [hg] at hL
    obtain ⟨mb, tag', rfl, ht, hd⟩ := hL
    exact ⟨mb, rfl, tag', h1.step ht g1.size, (h2.retag ht).grow g1, hd⟩
theorem loadRefNone (A : Option Addr) (cap : Nat) (xs : List (List UInt8 × List UInt8)) (Z : Nat → Prop) (hx : FilesIn w A xs Z) (hl : xs.length ≤ 1099511627776) (hs : ∀ x ∈ xs, x.1.length ≤ 1099511627776 ∧ x.2.length ≤ 1099511627776) (hn : loadGo [] xs = none) :
    Ret Try.prog 36 #[.slice A xs.length cap] w fun v w1 => Grow w w1 ∧ ∃ mb, v = .tuple #[.pointer (some ⟨mb, 0, none⟩), .int .i64 50] := by
  refine (rload36 (fun _ => .other) A cap xs Z w hx hl hs).mono ?_
  rintro v w1 ⟨g1, hL⟩
  rw [hn] at hL
  exact ⟨g1, hL⟩
end
end B
end Go.Proofs.Ytlofcomnhecgfaa
