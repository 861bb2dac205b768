/- Rules of the walk for the operations that touch memory: what is read, made, written. No conditions. -/
import Derived.Test.YtbcmmamipjbfpaaDoorOps
import Derived.Laws.AppendOwn
import Derived.Laws.BytesString
import Derived.Lib.ConvBytes
namespace Go.Proofs.YtbcmmamipjbfpaaDoor
namespace B
set_option linter.unusedVariables false
set_option linter.unusedSimpArgs false

/-! ### What has changed -/
/-- Only blocks of S (and new ones) have changed. -/
structure Chg (S : Nat → Prop) (w w' : World) : Prop where
  os : w'.os = w.os
  tape : w'.tape = w.tape
  output : w'.output = w.output
  size : w.heap.size ≤ w'.heap.size
  block : ∀ k, k < w.heap.size → ¬ S k → w'.heap[k]? = w.heap[k]?
def No : Nat → Prop := fun _ => False
abbrev Grow (w w' : World) : Prop := Chg No w w'

theorem Chg.refl (S : Nat → Prop) (w : World) : Chg S w w := ⟨rfl, rfl, rfl, Nat.le_refl _, fun _ _ _ => rfl⟩
theorem Chg.mono {S T : Nat → Prop} {w w' : World} (h : Chg S w w') (hs : ∀ k, k < w.heap.size → S k → T k) : Chg T w w' :=
  ⟨h.os, h.tape, h.output, h.size, fun k hk hn => h.block k hk fun hS => hn (hs k hk hS)⟩
theorem Chg.to {S : Nat → Prop} {w w' : World} (h : Grow w w') : Chg S w w' := h.mono fun _ _ hf => hf.elim
theorem Chg.trans {S T : Nat → Prop} {a b c : World} (h : Chg S a b) (k : Chg T b c) (hs : ∀ i, i < a.heap.size → T i → S i) : Chg S a c :=
  ⟨k.os.trans h.os, k.tape.trans h.tape, k.output.trans h.output, Nat.le_trans h.size k.size,
    fun i hi hn => (k.block i (Nat.lt_of_lt_of_le hi h.size) fun ht => hn (hs i hi ht)).trans (h.block i hi hn)⟩
theorem Chg.andThen {S : Nat → Prop} {a b c : World} (h : Chg S a b) (k : Chg S b c) : Chg S a c := h.trans k fun _ _ h => h
theorem Grow.then {a b c : World} (h : Grow a b) (k : Grow b c) : Grow a c := h.trans k fun _ _ h => h
theorem Chg.grow {S : Nat → Prop} {a b c : World} (h : Chg S a b) (k : Grow b c) : Chg S a c := h.trans k fun _ _ h => h.elim
theorem Grow.chg {S : Nat → Prop} {a b c : World} (h : Grow a b) (k : Chg S b c) : Chg S a c := Chg.trans (Chg.to h) k fun _ _ h => h
theorem Chg.new {S : Nat → Prop} {a b : World} (h : Chg S a b) (hs : ∀ k, k < a.heap.size → ¬ S k) : Grow a b := h.mono fun k hk hS => (hs k hk hS).elim
theorem Chg.heap {S : Nat → Prop} {w w' : World} (h : Chg S w w') {k : Nat} {o : Obj} (hb : w.heap[k]? = some o) (hn : ¬ S k) : w'.heap[k]? = some o :=
  (h.block k (Array.getElem?_eq_some_iff.1 hb).1 hn).trans hb
theorem Grow.heap {w w' : World} (h : Grow w w') {k : Nat} {o : Obj} (hb : w.heap[k]? = some o) : w'.heap[k]? = some o := Chg.heap h hb fun hf => hf
theorem Grow.below {w w' : World} (h : Grow w w') : Go.RowKit.Below w.heap.size w w' := ⟨h.os, h.tape, h.output, h.size, fun k hk => h.block k hk fun hf => hf⟩
theorem Chg.drew {S : Nat → Prop} {a b : World} (h : Chg S a b) : Chg S a { b with drawn := b.drawn + 1 } := ⟨h.os, h.tape, h.output, h.size, h.block⟩

theorem lt_of_heap {w : World} {k : Nat} {o : Obj} (hb : w.heap[k]? = some o) : k < w.heap.size := (Array.getElem?_eq_some_iff.1 hb).1

/-! ### Blocks -/
/-- A block of cells, none of them frozen. -/
def Blk (w : World) (b : Nat) (c : Array Value) (E : TypeId) : Prop := w.heap[b]? = some (.cells c E (0, 0))
theorem Blk.lt {w : World} {b : Nat} {c : Array Value} {E : TypeId} (h : Blk w b c E) : b < w.heap.size := lt_of_heap h
theorem Blk.keep {S : Nat → Prop} {w w' : World} {b : Nat} {c : Array Value} {E : TypeId} (h : Blk w b c E) (hc : Chg S w w') (hn : ¬ S b) : Blk w' b c E := hc.heap h hn
theorem Blk.grow {w w' : World} {b : Nat} {c : Array Value} {E : TypeId} (h : Blk w b c E) (hc : Grow w w') : Blk w' b c E := Grow.heap hc h
theorem Blk.cell {w : World} {b : Nat} {c : Array Value} {E : TypeId} (h : Blk w b c E) {o : Nat} {v : Value} (hi : c[o]? = some v) : w.cell? ⟨b, o, none⟩ = some v := by
  unfold Blk at h; simp [World.cell?, h, hi]
theorem Blk.free {w : World} {b : Nat} {c : Array Value} {E : TypeId} (h : Blk w b c E) (o : Nat) (s : Option Nat) : w.frozen? ⟨b, o, s⟩ = false := by
  unfold Blk at h; simp [World.frozen?, h]

/-- Cells from an address on. -/
def Sl (w : World) (A : Option Addr) (cs : List Value) : Prop := ∀ i v, cs[i]? = some v → ∃ a, A = some a ∧ a.spot = none ∧ w.cell? ⟨a.block, a.off + i, none⟩ = some v
theorem Sl.keep {S : Nat → Prop} {w w' : World} {A : Option Addr} {cs : List Value} (h : Sl w A cs) (hc : Chg S w w') (hn : ∀ a, A = some a → ¬ S a.block) : Sl w' A cs := by
  intro i v hi
  obtain ⟨a, h1, h2, h3⟩ := h i v hi
  refine ⟨a, h1, h2, ?_⟩
  rw [← h3]
  refine World.cell?_of_block (hc.block _ ?_ (hn a h1))
  exact World.block_lt_of_cell? w _ h3
theorem Sl.grow {w w' : World} {A : Option Addr} {cs : List Value} (h : Sl w A cs) (hc : Grow w w') : Sl w' A cs := h.keep hc fun _ _ hf => hf
theorem Sl.nil (w : World) (A : Option Addr) : Sl w A [] := fun i v h => by simp at h
theorem Sl.take {w : World} {A : Option Addr} {cs : List Value} (h : Sl w A cs) (n : Nat) : Sl w A (cs.take n) := by
  intro i v hi
  rw [List.getElem?_take] at hi
  split at hi
  · exact h i v hi
  · cases hi

/-- The address of the i-th cell. -/
def at_ (A : Option Addr) (i : Nat) : Option Addr := A.map fun a => ⟨a.block, a.off + i, none⟩
theorem Sl.drop {w : World} {A : Option Addr} {cs : List Value} (h : Sl w A cs) (n : Nat) : Sl w (at_ A n) (cs.drop n) := by
  intro i v hi
  rw [List.getElem?_drop] at hi
  obtain ⟨a, h1, h2, h3⟩ := h _ v hi
  exact ⟨_, by rw [at_, h1]; rfl, rfl, by simpa [Nat.add_assoc] using h3⟩
theorem Sl.drop' {w : World} {A : Option Addr} {cs : List Value} (h : Sl w A cs) (n : Nat) (hA : ∀ a, A = some a → a.spot = none) (B : Option Addr) (hB : B = A ∧ cs.length ≤ n ∨ B = at_ A n) : Sl w B (cs.drop n) := by
  rcases hB with ⟨rfl, hl⟩ | rfl
  · rw [List.drop_of_length_le hl]; exact Sl.nil _ _
  · exact h.drop n
theorem Blk.sl {w : World} {b : Nat} {c : Array Value} {E : TypeId} (h : Blk w b c E) (o n : Nat) : Sl w (some ⟨b, o, none⟩) ((c.toList.drop o).take n) := by
  intro i v hi
  rw [List.getElem?_take] at hi
  split at hi
  · rw [List.getElem?_drop] at hi
    exact ⟨_, rfl, rfl, h.cell (by simpa using hi)⟩
  · cases hi
theorem Blk.slAll {w : World} {b : Nat} {c : Array Value} {E : TypeId} (h : Blk w b c E) (cs : List Value) (hc : c.toList.take cs.length = cs) : Sl w (some ⟨b, 0, none⟩) cs := by
  have := h.sl 0 cs.length
  rwa [List.drop_zero, hc] at this

/-! ### A slice that nobody else writes -/
def Own (w : World) (A : Option Addr) (E : TypeId) (k n cap : Nat) (xs : List Value) (Z : Nat → Prop) : Prop :=
  xs.length = n * k ∧ ((A = none ∧ n = 0 ∧ cap = 0) ∨
    ∃ g cur, A = some ⟨g, 0, none⟩ ∧ Z g ∧ w.heap[g]? = some (.cells cur E (0, 0)) ∧ n ≤ cap ∧ cap ≤ maxLen ∧ cap * k ≤ cur.size ∧ cur.toList.take (n * k) = xs)
section own
variable {S : Nat → Prop} {w w' : World} {A : Option Addr} {E : TypeId} {k n cap : Nat} {xs : List Value} {Z : Nat → Prop}
theorem Own.keep (h : Own w A E k n cap xs Z) (hc : Chg S w w') (hn : ∀ b, Z b → ¬ S b) : Own w' A E k n cap xs Z := by
  refine ⟨h.1, h.2.imp id ?_⟩
  rintro ⟨g, cur, h1, h2, h3, h4⟩
  exact ⟨g, cur, h1, h2, hc.heap h3 (hn g h2), h4⟩
/-- The block alone matters. -/
theorem Own.keep' (h : Own w A E k n cap xs Z) (hc : Chg S w w') (hn : ∀ a, A = some a → ¬ S a.block) : Own w' A E k n cap xs Z := by
  refine ⟨h.1, h.2.imp id ?_⟩
  rintro ⟨g, cur, h1, h2, h3, h4⟩
  exact ⟨g, cur, h1, h2, hc.heap h3 (hn _ h1), h4⟩
theorem Own.grow (h : Own w A E k n cap xs Z) (hc : Grow w w') : Own w' A E k n cap xs Z := h.keep hc fun _ _ hf => hf
theorem Own.mono {Z' : Nat → Prop} (h : Own w A E k n cap xs Z) (hz : ∀ g, Z g → Z' g) : Own w A E k n cap xs Z' := by
  refine ⟨h.1, h.2.imp id ?_⟩
  rintro ⟨g, cur, h1, h2, h3⟩
  exact ⟨g, cur, h1, hz _ h2, h3⟩
theorem Own.zone {Z' : Nat → Prop} (h : Own w A E k n cap xs Z) (hz : ∀ a, A = some a → Z' a.block) : Own w A E k n cap xs Z' := by
  refine ⟨h.1, h.2.imp id ?_⟩
  rintro ⟨g, cur, h1, h2, h3⟩
  exact ⟨g, cur, h1, hz _ h1, h3⟩
theorem Own.in_ (h : Own w A E k n cap xs Z) {a : Addr} (ha : A = some a) : Z a.block ∧ a.block < w.heap.size := by
  rcases h.2 with ⟨h1, _⟩ | ⟨g, cur, h1, h2, h3, _⟩
  · rw [h1] at ha; cases ha
  · rw [h1] at ha; cases ha; exact ⟨h2, lt_of_heap h3⟩
theorem Own.le (h : Own w A E k n cap xs Z) : n ≤ cap := by
  rcases h.2 with ⟨h1, h2, h3⟩ | ⟨g, cur, h1, h2, h3, h4, _⟩ <;> omega
theorem Own.cap_le (h : Own w A E k n cap xs Z) : cap ≤ maxLen := by
  rcases h.2 with ⟨h1, h2, h3⟩ | ⟨g, cur, h1, h2, h3, h4, h5, _⟩
  · rw [h3]; exact Nat.zero_le _
  · exact h5
theorem Own.sl (h : Own w A E k n cap xs Z) : Sl w A xs := by
  rcases h.2 with ⟨h1, h2, h3⟩ | ⟨g, cur, h1, h2, h3, h4, h5, h6, h7⟩
  · have : xs = [] := List.eq_nil_of_length_eq_zero (by rw [h.1, h2]; simp)
    rw [this]; exact Sl.nil _ _
  · rw [h1]
    refine Blk.slAll (E := E) h3 xs ?_
    rw [h.1]; exact h7
theorem Own.nil (w : World) (E : TypeId) (k : Nat) (Z : Nat → Prop) : Own w none E k 0 0 [] Z := ⟨by simp, .inl ⟨rfl, rfl, rfl⟩⟩
theorem Own.isNone (h : Own w A E k n cap xs Z) (hA : A = none) : n = 0 ∧ cap = 0 := by
  rcases h.2 with ⟨h1, h2, h3⟩ | ⟨g, cur, h1, _⟩
  · exact ⟨h2, h3⟩
  · rw [hA] at h1; cases h1
end own

def fresh (w : World) : Nat → Prop := fun b => w.heap.size ≤ b

/-- One class for what is appended to and made. -/
class ElemT (P : Program) (t : TypeId) (E : outParam TypeId) (k : outParam Nat) (bytes : outParam Nat) (zero : outParam Value) : Prop where
  u : P.underlying t = some (.slice E)
  i : ∃ i, P.info? E = some i ∧ i.zero = some zero ∧ i.size = k ∧ i.bytes = bytes ∧ zero.cells.size = k ∧ 0 < k

section
variable {P : Program} {e : Env} {w : World} {K : Value → World → Prop} {ty : TypeId}

theorem run_under {t : TypeId} {d : TypeDesc} (h : P.underlying t = some d) : (underlying t).run P w = .ok d w := by simp [underlying, h]
theorem ElemT.slice {t E k by_ : Nat} {z : Value} (h : ElemT P t E k by_ z) : (underlying t).run P w = .ok (.slice E) w := run_under h.u
theorem ElemT.size {t E k by_ : Nat} {z : Value} (h : ElemT P t E k by_ z) : (sizeOf E).run P w = .ok k w := by
  obtain ⟨i, h1, h2, h3, _⟩ := h.i
  simp [sizeOf, typeInfo, h1, h3]

/-! ### Loads, stores, addresses -/
theorem run_load {a : Addr} {v : Value} (h : w.cell? a = some v) : (load a).run P w = .ok v w := by simp [load, Sem.run, h]
theorem OpW.load {t : TypeId} {x : Operand} {b o : Nat} {c : Array Value} {E : TypeId} {v : Value} [ht : Plain P t] (hx : ev e x = .pointer (some ⟨b, o, none⟩)) (hb : Blk w b c E) (hi : c[o]? = some v) (h : K v w) : OpW P (.load t x) ty e w K :=
  OpW.of_sem (s := Instr.loadAt t (ev e x)) rfl (by rw [hx]; simp [Instr.loadAt, Instr.sureAddr, loadVar, Sem.run_bind, ht.h, Result.andThen, run_load (hb.cell hi)]) h
theorem OpW.loadS {t : TypeId} {x : Operand} {A : Option Addr} {i : Nat} {cs : List Value} {v : Value} [ht : Plain P t] (hx : ev e x = .pointer (at_ A i)) (hs : Sl w A cs) (hi : cs[i]? = some v) (h : K v w) : OpW P (.load t x) ty e w K := by
  obtain ⟨a, h1, h2, h3⟩ := hs i v hi
  exact OpW.of_sem (s := Instr.loadAt t (ev e x)) rfl (by rw [hx, h1]; simp [at_, Instr.loadAt, Instr.sureAddr, loadVar, Sem.run_bind, ht.h, Result.andThen, run_load h3]) h

theorem run_cells {a : Addr} (n : Nat) (vs : List Value) (hn : vs.length = n) (h : ∀ i v, vs[i]? = some v → w.cell? (a.add i) = some v) : (loadCells a n).run P w = .ok vs.toArray w := by
  subst hn
  exact run_loadCells_list w a vs h
theorem add_at (b o i : Nat) : (⟨b, o, none⟩ : Addr).add i = ⟨b, o + i, none⟩ := by unfold Addr.add; split <;> simp_all
theorem OpW.loadAgg {t : TypeId} {x : Operand} {b o n : Nat} {c : Array Value} {E : TypeId} [ht : AggT P t n] (vs : List Value) (hx : ev e x = .pointer (some ⟨b, o, none⟩)) (hb : Blk w b c E) (hv : (c.toList.drop o).take n = vs) (hn : vs.length = n) (h : K (.agg vs.toArray) w) : OpW P (.load t x) ty e w K := by
  have hl : (loadCells ⟨b, o, none⟩ n).run P w = .ok vs.toArray w := run_cells n vs hn fun i v hi => by
    rw [add_at]
    rw [← hv, List.getElem?_take] at hi
    split at hi
    · rw [List.getElem?_drop] at hi; exact hb.cell (by simpa using hi)
    · cases hi
  exact OpW.of_sem (s := Instr.loadAt t (ev e x)) rfl (by rw [hx]; simp [Instr.loadAt, Instr.sureAddr, loadVar, Sem.run_bind, ht.h, ht.s, Result.andThen, hl]) h
theorem OpW.loadAggS {t : TypeId} {x : Operand} {A : Option Addr} {i n : Nat} {cs : List Value} [ht : AggT P t n] (vs : List Value) (hx : ev e x = .pointer (at_ A i)) (hs : Sl w A cs) (hv : (cs.drop i).take n = vs) (hn : vs.length = n) (h0 : 0 < n) (h : K (.agg vs.toArray) w) : OpW P (.load t x) ty e w K := by
  have key : ∀ j v, vs[j]? = some v → ∃ a, A = some a ∧ a.spot = none ∧ w.cell? ⟨a.block, a.off + (i + j), none⟩ = some v := by
    intro j v hj
    rw [← hv, List.getElem?_take] at hj
    split at hj
    · rw [List.getElem?_drop] at hj; exact hs _ v hj
    · cases hj
  obtain ⟨a, h1, h2, _⟩ := key 0 vs[0] (by simp)
  have hl : (loadCells ⟨a.block, a.off + i, none⟩ n).run P w = .ok vs.toArray w := run_cells n vs hn fun j v hj => by
    rw [add_at]
    obtain ⟨a', g1, g2, g3⟩ := key j v hj
    rw [h1] at g1; cases g1
    rw [Nat.add_assoc]; exact g3
  exact OpW.of_sem (s := Instr.loadAt t (ev e x)) rfl (by rw [hx, h1]; simp [at_, Instr.loadAt, Instr.sureAddr, loadVar, Sem.run_bind, ht.h, ht.s, Result.andThen, hl]) h

theorem OpW.fieldAddr {s : TypeId} {x : Operand} {i b o off : Nat} [hf : FieldT P s i off] (hx : ev e x = .pointer (some ⟨b, o, none⟩)) (h : K (.pointer (some ⟨b, o + off, none⟩)) w) : OpW P (.fieldAddr s x i) ty e w K := by
  obtain ⟨fs, f, sz, h1, h2, h3, h4, h5⟩ := hf.h
  exact OpW.of_sem (s := Instr.fieldAt s (ev e x) i) rfl (by rw [hx]; simp [Instr.fieldAt, Instr.sureAddr, fieldPlace, Sem.run_bind, h1, h2, h4, h5, Result.andThen, add_at, h3]) h
theorem OpW.fieldAddrS {s : TypeId} {x : Operand} {A : Option Addr} {i j off : Nat} [hf : FieldT P s i off] (hx : ev e x = .pointer (at_ A j)) (hA : A ≠ none) (h : K (.pointer (at_ A (j + off))) w) : OpW P (.fieldAddr s x i) ty e w K := by
  obtain ⟨fs, f, sz, h1, h2, h3, h4, h5⟩ := hf.h
  cases A with
  | none => exact absurd rfl hA
  | some a => exact OpW.of_sem (s := Instr.fieldAt s (ev e x) i) rfl (by rw [hx]; simp [at_, Instr.fieldAt, Instr.sureAddr, fieldPlace, Sem.run_bind, h1, h2, h4, h5, Result.andThen, add_at, h3, Nat.add_assoc]) h

/-- &xs[i]. -/
theorem OpW.indexAddr {t E k by_ : Nat} {z : Value} {x y : Operand} {A : Option Addr} {n c : Nat} {kk : IntKind} {j : Int} (i : Nat) [ht : ElemT P t E k by_ z] (hx : ev e x = .slice A n c) (hy : ev e y = .int kk j) (hj : j = (i : Int)) (hi : i < n) (hA : A ≠ none) (hsp : ∀ a, A = some a → a.spot = none) (h : K (.pointer (at_ A (i * k))) w) : OpW P (.indexAddr t x y) ty e w K := by
  cases A with
  | none => exact absurd rfl hA
  | some a =>
    obtain ⟨b, o, s⟩ := a
    have hs := hsp _ rfl
    simp only at hs
    subst hs
    refine OpW.of_sem (s := Instr.indexAt t (ev e x) (ev e y)) rfl (v := .pointer (at_ (some ⟨b, o, none⟩) (i * k))) (w' := w) ?_ h
    rw [hx, hy, hj]
    have hlt : (0 : Int) ≤ (i : Int) ∧ (i : Int) < (n : Int) := by omega
    simp only [Instr.indexAt, asIntOf, Sem.run_bind, Sem.run_pure, Result.andThen_ok, ht.slice, pure_bind]
    rw [if_pos hlt]
    simp [Sem.run_bind, ht.size, Result.andThen, add_at, at_]

/-- s[i] of a text. -/
theorem OpW.indexStr {t : TypeId} {x y : Operand} {s : ByteArray} {kk : IntKind} {j : Int} (i : Nat) (u : UInt8) [ht : StrT P t] (hx : ev e x = .string s) (hy : ev e y = .int kk j) (hj : j = (i : Int)) (hi : s.data.toList[i]? = some u) (h : K (.int .u8 (u.toNat : Int)) w) : OpW P (.index t x y) ty e w K := by
  refine OpW.of_sem (s := Instr.index t (ev e x) (ev e y)) rfl (v := .int .u8 (u.toNat : Int)) (w' := w) ?_ h
  rw [hx, hy, hj]
  have : s[i]? = some u := by
    obtain ⟨hl, hv⟩ := List.getElem?_eq_some_iff.1 hi
    rw [getElem?_pos s i (by simpa using hl)]
    exact congrArg some hv
  simp [Instr.index, asIntOf, Sem.run_bind, ht.h, Result.andThen, this]

/-! ### New memory -/
/-- A new block. -/
structure New (w w' : World) (b : Nat) (o : Obj) : Prop where
  grow : Grow w w'
  at_ : w'.heap[b]? = some o
  fresh : w.heap.size ≤ b
theorem New.push (w : World) (o : Obj) : New w { w with heap := w.heap.push o } w.heap.size o :=
  ⟨⟨rfl, rfl, rfl, by simp, fun k hk _ => by show (w.heap.push o)[k]? = _; rw [Array.getElem?_push, if_neg (by omega)]⟩, by simp, Nat.le_refl _⟩
theorem New.blk {w w' : World} {b : Nat} {c : Array Value} {E : TypeId} (h : New w w' b (.cells c E)) : Blk w' b c E := h.at_

theorem OpW.alloc {t : TypeId} {z : Value} [ht : ZeroT P t z] (h : ∀ b w', New w w' b (.cells z.cells t) → K (.pointer (some ⟨b, 0, none⟩)) w') : OpW P (.alloc t) ty e w K :=
  OpW.of_sem (s := Instr.alloc t true (.tuple #[])) rfl (v := .pointer (some ⟨w.heap.size, 0, none⟩)) (w' := { w with heap := w.heap.push (.cells z.cells t) })
    (by simp only [Instr.alloc, Sem.run_bind, ht.h, Result.andThen]; simp [newVar, newRow, newObj, Sem.run_bind, Sem.run, Result.andThen]) (h _ _ (New.push _ _))
theorem OpW.box {t : TypeId} {x : Operand} {v : Value} (hx : ev e x = v) (h : ∀ b w', New w w' b (.cells v.cells t) → K (.pointer (some ⟨b, 0, none⟩)) w') : OpW P (.box t x) ty e w K :=
  OpW.of_sem (s := Instr.box t (ev e x)) rfl (v := .pointer (some ⟨w.heap.size, 0, none⟩)) (w' := { w with heap := w.heap.push (.cells v.cells t) })
    (by rw [hx]; simp [Instr.box, newVar, newRow, newObj, Sem.run_bind, Sem.run, Result.andThen]) (h _ _ (New.push _ _))

/-! ### Stores -/
structure Put (w w' : World) (b : Nat) : Prop where
  chg : Chg (· = b) w w'
  size : w'.heap.size = w.heap.size
theorem set_blk {b o : Nat} {c : Array Value} {E : TypeId} (hb : Blk w b c E) (v : Value) : Blk (w.setCell ⟨b, o, none⟩ v) b (c.setIfInBounds o v) E := by
  unfold Blk at *
  simp [World.setCell, Array.getElem?_modify, hb]
theorem set_put {b o : Nat} (v : Value) : Put w (w.setCell ⟨b, o, none⟩ v) b :=
  ⟨⟨rfl, rfl, rfl, by simp [World.setCell], fun k hk hn => Go.RowKit.Below.heap_setCell w ⟨b, o, none⟩ v k hn⟩, by simp [World.setCell]⟩
theorem run_store1 {b o : Nat} {c : Array Value} {E : TypeId} {v : Value} (hb : Blk w b c E) (ho : o < c.size) (hv : v.oneCell' = true) : (store ⟨b, o, none⟩ v).run P w = .ok () (w.setCell ⟨b, o, none⟩ v) := by
  have hc : w.cell? ⟨b, o, none⟩ = some c[o] := hb.cell (by simp [ho])
  have hf := hb.free o none
  cases v <;> first
    | exact Bool.noConfusion hv
    | simp [Go.store, Sem.run, hc, hf]
theorem OpW.store {t : TypeId} {x y : Operand} {b o : Nat} {c c' : Array Value} {E : TypeId} {v : Value} [ht : SizeT P t 1] (hx : ev e x = .pointer (some ⟨b, o, none⟩)) (hy : ev e y = v) (hv : v.oneCell' = true) (hb : Blk w b c E) (ho : Nat.blt o c.size = true) (hc : c.setIfInBounds o v = c')
    (h : ∀ w', Put w w' b → Blk w' b c' E → K undef w') : OpW P (.store t x y) ty e w K := by
  refine OpW.of_unit (s := Instr.storeAt t (ev e x) (ev e y)) rfl (w' := w.setCell ⟨b, o, none⟩ v) ?_ (h _ (set_put v) (hc ▸ set_blk hb v))
  have hs := run_store1 (P := P) hb (blt_lt ho) hv
  have h1 : v.cells = #[v] := by cases v <;> first | rfl | exact Bool.noConfusion hv
  rw [hx, hy]
  simp [Instr.storeAt, Instr.sureAddr, storeVar, Sem.run_bind, ht.h, Result.andThen, h1, storeCells, Addr.add, hs]
end
end B
end Go.Proofs.YtbcmmamipjbfpaaDoor
