/- Rules of the walk: slices of slices, texts and bytes, literals, make. No conditions. -/
import Derived.Test.YtbcmmamipjbfpaaDoorMem2
import Derived.Lib.Strings
namespace Go.Proofs.YtbcmmamipjbfpaaDoor
namespace B
set_option linter.unusedVariables false
set_option linter.unusedSimpArgs false

def bv (x : UInt8) : Value := .int .u8 (x.toNat : Int)
def bvs (l : List UInt8) : List Value := l.map bv
def bstr (l : List UInt8) : ByteArray := ⟨l.toArray⟩
theorem bvs_length (l : List UInt8) : (bvs l).length = l.length := by simp [bvs]
theorem bvs_append (l m : List UInt8) : bvs (l ++ m) = bvs l ++ bvs m := by simp [bvs]
theorem bvs_get (l : List UInt8) (i : Nat) : (bvs l)[i]? = (l[i]?).map bv := by simp [bvs]
theorem bvs_one (l : List UInt8) : ∀ u ∈ bvs l, u.oneCell' = true := by
  intro u hu
  simp only [bvs, List.mem_map] at hu
  obtain ⟨x, _, rfl⟩ := hu
  rfl
theorem bvs_take (l : List UInt8) (n : Nat) : (bvs l).take n = bvs (l.take n) := by simp [bvs]
theorem bvs_drop (l : List UInt8) (n : Nat) : (bvs l).drop n = bvs (l.drop n) := by simp [bvs]
theorem bstr_toList (l : List UInt8) : (bstr l).toList = l := by rw [ByteArray.toList_eq]; rfl
theorem bstr_data (l : List UInt8) : (bstr l).data.toList = l := rfl
theorem bstr_size (l : List UInt8) : (bstr l).size = l.length := by simp [bstr, ByteArray.size]
theorem bstr_eta (s : ByteArray) : bstr s.data.toList = s := by cases s; simp [bstr]
theorem bstr_append (l m : List UInt8) : bstr l ++ bstr m = bstr (l ++ m) := by
  have h : ∀ a b : ByteArray, a.data = b.data → a = b := fun a b h => by cases a; cases b; simp_all
  apply h
  simp [bstr, ByteArray.data_append]

section
variable {P : Program} {e : Env} {w : World} {K : Value → World → Prop} {ty : TypeId}

/-! ### Slices of slices -/
theorem run_bound {k : IntKind} {x : Nat} {y : Nat} {code : BoundsCode} (h : x ≤ y) : (Instr.sliceBound (.int k (x : Int)) y code).run P w = .ok x w := by
  simp only [Instr.sliceBound, asIntOf, Sem.run_bind, Sem.run_pure, Result.andThen_ok, pure_bind]
  rw [if_pos (by omega)]
  simp
theorem add_eq {A : Option Addr} (n : Nat) (h : ∀ a, A = some a → a.spot = none) : (A.map fun a => a.add n) = at_ A n := by
  cases A with
  | none => rfl
  | some a =>
    obtain ⟨b, o, s⟩ := a
    have := h _ rfl
    simp only at this
    subst this
    simp [at_, add_at]
theorem at_zero {A : Option Addr} (h : ∀ a, A = some a → a.spot = none) : at_ A 0 = A := by
  cases A with
  | none => rfl
  | some a =>
    obtain ⟨b, o, s⟩ := a
    have := h _ rfl
    simp only at this
    subst this
    rfl
theorem at_at (A : Option Addr) (i j : Nat) : at_ (at_ A i) j = at_ A (i + j) := by
  cases A <;> simp [at_, Nat.add_assoc]

theorem run_slice' {t E k by_ : Nat} {z : Value} (ht : ElemT P t E k by_ z) {A B : Option Addr} {n c l h m : Nat} {lo hi mx : Option Value} (hB : (A.map fun a => a.add (l * k)) = B)
    (hb : (Instr.sliceBounds true n c lo hi mx).run P w = .ok (l, h, m) w) :
    (Instr.sliceAt t (.slice A n c) lo hi mx).run P w = .ok (.slice (if m = l then A else B) (h - l) (m - l)) w := by
  simp only [Instr.sliceAt, Sem.run_bind, ht.slice, Result.andThen_ok, Instr.slice, hb, ht.size]
  rw [← hB]
  rfl
theorem run_slice {t E k by_ : Nat} {z : Value} (ht : ElemT P t E k by_ z) {A : Option Addr} {n c l h m : Nat} {lo hi mx : Option Value} (hsp : ∀ a, A = some a → a.spot = none)
    (hb : (Instr.sliceBounds true n c lo hi mx).run P w = .ok (l, h, m) w) :
    (Instr.sliceAt t (.slice A n c) lo hi mx).run P w = .ok (.slice (if m = l then A else at_ A (l * k)) (h - l) (m - l)) w :=
  run_slice' ht (add_eq (l * k) hsp) hb
theorem add_zero' {A : Option Addr} (k : Nat) : (A.map fun a => a.add (0 * k)) = A := by
  cases A <;> simp [Addr.add]

/-- x[:h]. -/
theorem OpW.sliceHi {t E k by_ n c : Nat} {z : Value} {x y : Operand} {A : Option Addr} {kk : IntKind} {j : Int} (h : Nat) [ht : ElemT P t E k by_ z] (hx : ev e x = .slice A n c) (hy : ev e y = .int kk j) (hj : j = (h : Int)) (hh : h ≤ c) (hk : K (.slice A h c) w) : OpW P (.slice t x none (some y) none) ty e w K := by
  refine OpW.of_sem (s := Instr.sliceAt t (ev e x) none (some (ev e y)) none) rfl (v := .slice A h c) (w' := w) ?_ hk
  rw [hx, hy, hj]
  rw [run_slice' ht (add_zero' k) (l := 0) (h := h) (m := c)]
  · congr 1
    split <;> rfl
  · simp [Instr.sliceBounds, Sem.run_bind, run_bound hh, Result.andThen]

/-- x[l:]. -/
theorem OpW.sliceLo {t E k by_ n c : Nat} {z : Value} {x y : Operand} {A : Option Addr} {kk : IntKind} {j : Int} (l : Nat) [ht : ElemT P t E k by_ z] (hx : ev e x = .slice A n c) (hy : ev e y = .int kk j) (hj : j = (l : Int)) (hl : l ≤ n) (hsp : ∀ a, A = some a → a.spot = none) (hk : ∀ B, (B = A ∧ c = l ∨ B = at_ A (l * k)) → K (.slice B (n - l) (c - l)) w) : OpW P (.slice t x (some y) none none) ty e w K := by
  refine OpW.of_sem (s := Instr.sliceAt t (ev e x) (some (ev e y)) none none) rfl (v := .slice (if c = l then A else at_ A (l * k)) (n - l) (c - l)) (w' := w) ?_ (hk _ ?_)
  · rw [hx, hy, hj]
    rw [run_slice ht hsp (l := l) (h := n) (m := c)]
    simp [Instr.sliceBounds, Sem.run_bind, run_bound hl, Result.andThen]
  · split
    · exact Or.inl ⟨rfl, ‹_›⟩
    · exact Or.inr rfl

/-- x[l:h]. -/
theorem OpW.sliceLoHi {t E k by_ n c : Nat} {z : Value} {x y u : Operand} {A : Option Addr} {kk kk' : IntKind} {j j' : Int} (l h : Nat) [ht : ElemT P t E k by_ z] (hx : ev e x = .slice A n c) (hy : ev e y = .int kk j) (hj : j = (l : Int)) (hu : ev e u = .int kk' j') (hj' : j' = (h : Int)) (hl : l ≤ h) (hh : h ≤ c) (hsp : ∀ a, A = some a → a.spot = none) (hk : ∀ B, (B = A ∧ c = l ∨ B = at_ A (l * k)) → K (.slice B (h - l) (c - l)) w) : OpW P (.slice t x (some y) (some u) none) ty e w K := by
  refine OpW.of_sem (s := Instr.sliceAt t (ev e x) (some (ev e y)) (some (ev e u)) none) rfl (v := .slice (if c = l then A else at_ A (l * k)) (h - l) (c - l)) (w' := w) ?_ (hk _ ?_)
  · rw [hx, hy, hj, hu, hj']
    rw [run_slice ht hsp (l := l) (h := h) (m := c)]
    simp [Instr.sliceBounds, Sem.run_bind, run_bound hl, run_bound hh, Result.andThen]
  · split
    · exact Or.inl ⟨rfl, ‹_›⟩
    · exact Or.inr rfl

/-- x[:h:h]. -/
theorem OpW.sliceHiMax {t E k by_ n c : Nat} {z : Value} {x y u : Operand} {A : Option Addr} {kk kk' : IntKind} {j j' : Int} (h : Nat) [ht : ElemT P t E k by_ z] (hx : ev e x = .slice A n c) (hy : ev e y = .int kk j) (hj : j = (h : Int)) (hu : ev e u = .int kk' j') (hj' : j' = (h : Int)) (hh : h ≤ c) (hk : K (.slice A h h) w) : OpW P (.slice t x none (some y) (some u)) ty e w K := by
  refine OpW.of_sem (s := Instr.sliceAt t (ev e x) none (some (ev e y)) (some (ev e u))) rfl (v := .slice A h h) (w' := w) ?_ hk
  rw [hx, hy, hj, hu, hj']
  rw [run_slice' ht (add_zero' k) (l := 0) (h := h) (m := h)]
  · congr 1
    split <;> rfl
  · simp [Instr.sliceBounds, Sem.run_bind, run_bound hh, run_bound (Nat.le_refl h), Result.andThen]

/-! ### Texts and bytes -/
theorem run_push (f : Value → ByteArray → Sem (ForInStep ByteArray)) (hf : ∀ (n : Int) (r : ByteArray), (f (.int .u8 n) r).run P w = .ok (.yield (r.push (UInt8.ofNat n.toNat))) w) :
    ∀ (l : List UInt8) (s : List UInt8), (forIn (bvs l) (bstr s) f).run P w = .ok (bstr (s ++ l)) w := by
  intro l
  induction l with
  | nil => intro s; simp [bvs, Sem.run_pure]
  | cons n l ih =>
    intro s
    have hp : (bstr s).push (UInt8.ofNat ((n.toNat : Int)).toNat) = bstr (s ++ [n]) := by
      have h : ∀ a b : ByteArray, a.data = b.data → a = b := fun a b h => by cases a; cases b; simp_all
      apply h
      simp [bstr, ByteArray.push]
    simp only [bvs, List.map_cons, List.forIn_cons, Sem.run_bind, bv, hf, Result.andThen, hp]
    have := ih (s ++ [n])
    simp only [bvs] at this
    rw [this]
    simp

theorem OpW.toStr {s d E k by_ : Nat} {z : Value} {x : Operand} {A : Option Addr} {n c : Nat} {l : List UInt8} [ht : ElemT P s E k by_ z] [he : IntT P E .u8] [hd : StrT P d] (hx : ev e x = .slice A n c) (hs : Sl w A (bvs l)) (hn : n = l.length) (h : K (.string (bstr l)) w) : OpW P (.convert s d x) ty e w K := by
  refine OpW.of_sem (s := convert s d (ev e x)) rfl (v := .string (bstr l)) (w' := w) ?_ h
  rw [hx]
  have hconv : (convert s d (.slice A n c)).run P w = (Conv.bytesToString (.slice A n c)).run P w := by
    simp only [convert, Sem.run_bind, ht.slice, hd.h, Result.andThen_ok]
    cases A <;> simp [Sem.run_bind, he.h]
  rw [hconv]
  cases A with
  | none =>
    have : l = [] := by
      cases l with
      | nil => rfl
      | cons a l => obtain ⟨a', h1, _⟩ := hs 0 (bv a) (by simp [bvs]); cases h1
    subst this
    simp [Conv.bytesToString, bstr, Sem.run_pure]
    rfl
  | some a =>
    subst hn
    unfold Conv.bytesToString
    have hl := run_cells (P := P) l.length (bvs l) (bvs_length l) (hs.read rfl)
    simp only [Sem.run_bind, hl, Result.andThen, List.forIn_toArray]
    have := run_push (P := P) (w := w) (fun c r => do
        let .int .u8 n := c | stuck "bytesToString: byte expected"
        pure (.yield (r.push (UInt8.ofNat n.toNat)))) (by intro n r; simp [Sem.run_pure]) l []
    simp only [List.nil_append] at this
    have e0 : (ByteArray.empty : ByteArray) = bstr [] := rfl
    rw [e0]
    erw [this]
    simp [Sem.run_pure]

theorem OpW.toBytes {s d E k by_ : Nat} {z : Value} {x : Operand} {l : List UInt8} [hs : StrT P s] [ht : ElemT P d E k by_ z] [he : IntT P E .u8] (hx : ev e x = .string (bstr l))
    (h : ∀ b cap w', Grow w w' → w.heap.size ≤ b → b < w'.heap.size → Sl w' (some ⟨b, 0, none⟩) (bvs l) → l.length ≤ cap → K (.slice (some ⟨b, 0, none⟩) l.length cap) w') : OpW P (.convert s d x) ty e w K := by
  have hu : P.underlying E = some (.int .u8) := by
    have := he.h w
    unfold underlying at this
    rw [Sem.run_bind] at this
    simp only [program, Sem.run, Result.andThen] at this
    cases hq : P.underlying E with
    | none => rw [hq] at this; simp [stuck, Sem.run] at this
    | some d => rw [hq] at this; simp [Sem.run_pure] at this; rw [this]
  have hus : P.underlying s = some .string := by
    have := hs.h w
    unfold underlying at this
    rw [Sem.run_bind] at this
    simp only [program, Sem.run, Result.andThen] at this
    cases hq : P.underlying s with
    | none => rw [hq] at this; simp [stuck, Sem.run] at this
    | some d => rw [hq] at this; simp [Sem.run_pure] at this; rw [this]
  have hr := Lib.run_convert_string_bytes (P := P) w s d E (bstr l) hus ht.u hu
  refine OpW.of_sem (s := convert s d (ev e x)) rfl (by rw [hx]; exact hr) ?_
  rw [bstr_size] at hr ⊢
  refine h _ _ _ ⟨?_, ?_, ?_, ?_, fun k hk _ => Lib.bytesWorld_at_old w E (bstr l) k hk⟩ (Nat.le_refl _) (by rw [Lib.bytesWorld_size]; omega) ?_ (grownCap_ge w _ 0 E)
  · simp only [Lib.bytesWorld, World.freeze]; split <;> rfl
  · simp only [Lib.bytesWorld, World.freeze]; split <;> rfl
  · simp only [Lib.bytesWorld, World.freeze]; split <;> rfl
  · rw [Lib.bytesWorld_size]; omega
  · intro i v hi
    rw [bvs_get] at hi
    cases hq : l[i]? with
    | none => rw [hq] at hi; cases hi
    | some u =>
      rw [hq] at hi
      simp only [Option.map_some, Option.some.injEq] at hi
      obtain ⟨hl, hv⟩ := List.getElem?_eq_some_iff.1 hq
      refine ⟨_, rfl, rfl, ?_⟩
      have := Lib.bytesWorld_cell w E (bstr l) i (by rw [bstr_size]; exact hl)
      rw [bstr_data, List.getD_eq_getElem?_getD, hq, Option.getD_some] at this
      rw [Nat.zero_add, this, ← hi]
      rfl

theorem OpW.binStr {op : BinOp} {t t' : TypeId} {x y : Operand} {l m : List UInt8} {v : Value} (hx : ev e x = .string (bstr l)) (hy : ev e y = .string (bstr m)) (hr : (Op.stringOp op (bstr l) (bstr m)).run P w = .ok v w) (ho : op = .add ∨ op = .eql ∨ op = .neq ∨ op = .lss) (h : K v w) : OpW P (.binOp op t x y t') ty e w K :=
  OpW.bin hx hy (by rw [Sem.run_bind, guard_other (by simp) (by simp)]; rcases ho with rfl | rfl | rfl | rfl <;> exact hr) h
theorem OpW.addS {t t' : TypeId} {x y : Operand} {l m : List UInt8} (hx : ev e x = .string (bstr l)) (hy : ev e y = .string (bstr m)) (hl : l.length + m.length ≤ 9223372036854775807) (h : K (.string (bstr (l ++ m))) w) : OpW P (.binOp .add t x y t') ty e w K :=
  OpW.binStr hx hy (by
    simp only [Op.stringOp, bstr_size]
    rw [if_neg (by simp [IntKind.max, IntKind.signed, IntKind.bits]; omega), bstr_append]; rfl) (Or.inl rfl) h
theorem OpW.eqlStr {t t' : TypeId} {x y : Operand} {l m : List UInt8} (hx : ev e x = .string (bstr l)) (hy : ev e y = .string (bstr m)) (h : K (.bool (decide (l = m))) w) : OpW P (.binOp .eql t x y t') ty e w K :=
  OpW.binStr hx hy (by simp only [Op.stringOp, bstr_toList]; rw [show (l == m) = decide (l = m) from by rw [Bool.eq_iff_iff]; simp]; rfl) (Or.inr (Or.inl rfl)) h
theorem OpW.neqStr {t t' : TypeId} {x y : Operand} {l m : List UInt8} (hx : ev e x = .string (bstr l)) (hy : ev e y = .string (bstr m)) (h : K (.bool (decide (¬ l = m))) w) : OpW P (.binOp .neq t x y t') ty e w K :=
  OpW.binStr hx hy (by simp only [Op.stringOp, bstr_toList, decide_not]; rw [show (l == m) = decide (l = m) from by rw [Bool.eq_iff_iff]; simp]; rfl) (Or.inr (Or.inr (Or.inl rfl))) h
theorem OpW.lssStr {t t' : TypeId} {x y : Operand} {l m : List UInt8} (hx : ev e x = .string (bstr l)) (hy : ev e y = .string (bstr m)) (h : K (.bool (Op.bytesLess l m)) w) : OpW P (.binOp .lss t x y t') ty e w K :=
  OpW.binStr hx hy (by simp only [Op.stringOp, bstr_toList]; rfl) (Or.inr (Or.inr (Or.inr rfl))) h

/-! ### Literals, make -/
theorem exec_buildSlice (t len : Nat) (parts : Array (Nat × Operand)) : execOp (ev e) ⟨none, .buildSlice t len parts, ty, "", #[], none⟩ = (do pure (.value (← Instr.buildSlice t len (parts.map fun p => (p.1, ev e p.2))))) := by
  simp only [execOp]
theorem exec_build (t : Nat) (parts : Array (Nat × Operand)) : execOp (ev e) ⟨none, .build t parts, ty, "", #[], none⟩ = (do pure (.value (← Instr.build t (parts.map fun p => (p.1, ev e p.2))))) := by
  simp only [execOp]
theorem OpW.buildSlice {t E k by_ len : Nat} {z : Value} {parts : Array (Nat × Operand)} {ps : Array (Nat × Value)} {cells : Array Value} [ht : ElemT P t E k by_ z] [hz : ZeroT P E z] (hp : (parts.map fun p => (p.1, ev e p.2)) = ps) (hlen : Nat.ble (len * k) (2 ^ 24) = true)
    (hf : Instr.fill (fun i => some (i * k, k)) ((Array.range (len * k)).map (fun i => (if len * k = 0 then #[] else z.cells)[i % (if len * k = 0 then #[] else z.cells).size]!)) ps.toList = some cells)
    (h : ∀ b w', New w w' b (.cells cells E) → K (.slice (some ⟨b, 0, none⟩) len len) w') : OpW P (.buildSlice t len parts) ty e w K := by
  have hk := h _ _ (New.push w (.cells cells E))
  clear h
  refine OpW.of_sem (exec_buildSlice (e := e) (ty := ty) t len parts) ?_ hk
  have hle : ¬ (len * k > 2 ^ 24) := Nat.not_lt.2 (Nat.le_of_ble_eq_true hlen)
  clear hlen
  rw [hp]
  simp only [Instr.buildSlice, Sem.run_bind, ht.slice, Result.andThen_ok, ht.size, hle, if_false]
  by_cases h0 : len * k = 0
  · simp only [h0, if_true] at hf ⊢
    simp only [Sem.run_bind, Result.andThen_ok, Sem.run_pure, hf]
    simp [newRow, newObj, Sem.run, Result.andThen, Sem.run_bind]
  · simp only [h0, if_false] at hf ⊢
    simp only [Sem.run_bind, hz.h, Result.andThen_ok, Sem.run_pure, hf]
    simp [newRow, newObj, Sem.run, Result.andThen, Sem.run_bind]

/-- []T{}: nothing. -/
theorem OpW.buildNone {t E k by_ : Nat} {z : Value} [ht : ElemT P t E k by_ z] [hz : ZeroT P E z] (h : ∀ b w', New w w' b (.cells #[] E) → K (.slice (some ⟨b, 0, none⟩) 0 0) w') : OpW P (.buildSlice t 0 #[]) ty e w K := by
  refine OpW.buildSlice (ps := #[]) (cells := #[]) (by simp) (by rw [Nat.zero_mul]; rfl) ?_ h
  have : ∀ a : Array Value, a.size = 0 → Instr.fill (fun i => some (i * k, k)) a [] = some #[] := fun a ha => by
    rw [Array.eq_empty_of_size_eq_zero ha]; rfl
  exact this _ (by simp)

class PlacesT (P : Program) (t : TypeId) (ps : outParam (Array (Nat × Nat))) (z : outParam Value) : Prop where
  h : ∃ fs, (∀ w, (underlying t).run P w = .ok (.struct fs) w) ∧ ∀ w, (fs.mapM fun f => (do pure (f.offset, ← sizeOf f.type) : Sem (Nat × Nat))).run P w = .ok ps w
  z : ∀ w, (zeroValue t).run P w = .ok z w
theorem OpW.build {t : TypeId} {z : Value} {pl : Array (Nat × Nat)} {parts : Array (Nat × Operand)} {ps : List (Nat × Value)} {cells : Array Value} [ht : PlacesT P t pl z] (hp : parts.toList.map (fun p => (p.1, ev e p.2)) = ps) (hf : Instr.fill (pl[·]?) z.cells ps = some cells) (h : K (.agg cells) w) : OpW P (.build t parts) ty e w K := by
  obtain ⟨fs, h1, h2⟩ := ht.h
  have hl : (parts.map fun p => (p.1, ev e p.2)).toList = ps := by rw [Array.toList_map]; exact hp
  refine OpW.of_sem (s := Instr.build t (parts.map fun p => (p.1, ev e p.2))) (exec_build _ _) (v := .agg cells) (w' := w) ?_ h
  simp only [Instr.build, Sem.run_bind, ht.z, h1, Result.andThen_ok, h2, hl, hf, Sem.run_pure]

theorem OpW.makeSlice {t E by_ n : Nat} {z : Value} {x y : Operand} [ht : ElemT P t E 1 by_ z] [hz : ZeroT P E z] (hzc : z.cells = #[z]) (hx : ev e x = .int .i64 (n : Int)) (hy : ev e y = .int .i64 (n : Int)) (hb : by_ * n ≤ 140737488355328) (hn : n ≤ 140737488355328)
    (h : ∀ b w', New w w' b (.cells (Array.replicate n z) E) → K (.slice (some ⟨b, 0, none⟩) n n) w') : OpW P (.makeSlice t x y) ty e w K := by
  refine OpW.of_sem (s := Instr.makeSlice t (ev e x) (ev e y)) rfl (v := .slice (some ⟨w.heap.size, 0, none⟩) n n) (w' := { w with heap := w.heap.push (.cells (Array.replicate n z) E) }) ?_ (h _ _ (New.push _ _))
  obtain ⟨i, g1, g2, g3, g4, g5, g6⟩ := ht.i
  have hw : IntKind.i64.wrap (n : Int) = (n : Int) := wrap_i64 (by omega) (by omega)
  have hbi : (i.bytes : Int) * (n : Int) ≤ 140737488355328 := by rw [g4, ← Int.natCast_mul]; omega
  have hcells : ((Array.range n).map fun j => (#[z] : Array Value)[j % (#[z] : Array Value).size]!) = Array.replicate n z := by
    apply Array.ext
    · simp
    · intro j h1 h2
      simp [Nat.mod_one]
  have hcells0 : (Array.range n).map (fun j => (if n = 0 then (#[] : Array Value) else #[z])[j % (if n = 0 then (#[] : Array Value) else #[z]).size]!) = Array.replicate n z := by
    by_cases h0 : n = 0
    · subst h0; simp
    · simp only [h0, if_false]; exact hcells
  rw [hx, hy]
  have c1 : ¬ ((n : Int) < 0) := by omega
  have c2 : ¬ (281474976710656 < (i.bytes : Int) * (n : Int)) := by omega
  have c3 : ¬ (n * i.bytes > 2 ^ 47) := by rw [g4, Nat.mul_comm]; omega
  simp only [Instr.makeSlice, Sem.run_bind, ht.slice, Result.andThen_ok, asInt, asIntOf, Sem.run_pure, pure_bind, hw, typeInfo, program, Sem.run, g1, Result.andThen]
  rw [if_neg (by simp; omega)]
  simp only [Sem.run_bind, askRoom, roomBytes, Int.toNat_natCast, c3, if_false, Sem.run_pure, Result.andThen, ht.size, Nat.mul_one]
  by_cases h0 : n = 0
  · subst h0
    simp [newRow, newObj, Sem.run_bind, Sem.run, Result.andThen, Array.range]
  · simp only [h0, if_false, Sem.run_bind, hz.h, Result.andThen, Sem.run_pure, hzc, hcells]
    simp [newRow, newObj, Sem.run_bind, Sem.run, Result.andThen]
end
end B
end Go.Proofs.YtbcmmamipjbfpaaDoor
