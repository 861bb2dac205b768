/- Rules for arrays of whole numbers by value. No conditions. -/
import Derived.Test.YtbcmmamipjbfpaaDoorLimbA
import Derived.Laws.StructEq
namespace Go.Proofs.YtbcmmamipjbfpaaDoor
namespace B
set_option linter.unusedVariables false
set_option linter.unusedSimpArgs false

/-- An array of whole numbers. -/
class ArrT (P : Program) (t : TypeId) (n : outParam Nat) (E : outParam TypeId) (k : outParam IntKind) : Prop where
  u : P.underlying t = some (.array n E)
  s : ∀ w, (sizeOf E).run P w = .ok 1 w
  g : ∀ w, (isAgg E).run P w = .ok false w
  e : P.underlying E = some (.int k)
  q : P.eqGuardType P.depth t = false
section
variable {P : Program} {e : Env} {w : World} {K : Value → World → Prop} {ty : TypeId} {t E n : Nat} {k kk : IntKind} {x y : Operand}
theorem OpW.idxA {b o : Nat} {j : Int} (i : Nat) [ht : ArrT P t n E k] (hx : ev e x = .pointer (some ⟨b, o, none⟩)) (hy : ev e y = .int kk j) (hj : j = (i : Int)) (hi : i < n) (h : K (.pointer (some ⟨b, o + i, none⟩)) w) : OpW P (.indexAddr t x y) ty e w K := by
  refine OpW.of_sem (s := Instr.indexAt t (ev e x) (ev e y)) rfl (v := .pointer (some ⟨b, o + i, none⟩)) (w' := w) ?_ h
  rw [hx, hy, hj]
  have hlt : (0 : Int) ≤ (i : Int) ∧ (i : Int) < (n : Int) := by omega
  simp only [Instr.indexAt, asIntOf, Sem.run_bind, Sem.run_pure, Result.andThen_ok, run_under ht.u, Instr.sureAddr, pure_bind]
  rw [if_pos hlt]
  simp [Sem.run_bind, ht.s, Result.andThen, Addr.add]
theorem OpW.idxV {cs : Array Value} {v : Value} {j : Int} (i : Nat) [ht : ArrT P t n E k] (hx : ev e x = .agg cs) (hy : ev e y = .int kk j) (hj : j = (i : Int)) (hi : i < n) (hv : cs[i]? = some v) (h : K v w) : OpW P (.index t x y) ty e w K := by
  refine OpW.of_sem (s := Instr.index t (ev e x) (ev e y)) rfl (v := v) (w' := w) ?_ h
  rw [hx, hy, hj]
  have hlt : (0 : Int) ≤ (i : Int) ∧ (i : Int) < (n : Int) := by omega
  simp only [Instr.index, asIntOf, Sem.run_bind, Sem.run_pure, Result.andThen_ok, run_under ht.u, pure_bind]
  rw [if_pos hlt]
  simp [Sem.run_bind, ht.s, Result.andThen, part, ht.g, hv]
theorem OpW.buildA {z : Value} {parts : Array (Nat × Operand)} {ps : List (Nat × Value)} {cells : Array Value} [ht : ArrT P t n E k] [hz : ZeroT P t z] (hp : parts.toList.map (fun p => (p.1, ev e p.2)) = ps) (hf : Instr.fill (fun i => some (i * 1, 1)) z.cells ps = some cells) (h : K (.agg cells) w) : OpW P (.build t parts) ty e w K := by
  have hl : (parts.map fun p => (p.1, ev e p.2)).toList = ps := by rw [Array.toList_map]; exact hp
  refine OpW.of_sem (s := Instr.build t (parts.map fun p => (p.1, ev e p.2))) (exec_build _ _) (v := .agg cells) (w' := w) ?_ h
  simp only [Instr.build, Sem.run_bind, hz.h, run_under ht.u, Result.andThen_ok, ht.s, hl, hf, Sem.run_pure]
theorem run_eq4 {a0 a1 a2 a3 b0 b1 b2 b3 : Int} [ht : ArrT P t 4 E k] : (Op.equalIn 10000 t (.agg #[.int k a0, .int k a1, .int k a2, .int k a3]) (.agg #[.int k b0, .int k b1, .int k b2, .int k b3])).run P w = .ok (decide (a0 = b0 ∧ a1 = b1 ∧ a2 = b2 ∧ a3 = b3)) w := by
  have hp : ∀ (xs : Array Value) (i : Nat) (v : Value), xs[i]? = some v → (part E xs i).run P w = .ok v w := fun xs i v hv => by simp [part, Sem.run_bind, ht.g, hv, Result.andThen]
  have he : ∀ a b : Int, (Op.equalIn 9999 E (.int k a) (.int k b)).run P w = .ok (a == b) w := fun a b => run_equalIn_int w 9998 E k k a b ht.e
  show (Op.equalIn (9999 + 1) t _ _).run P w = _
  rw [Op.equalIn]
  simp only [Sem.run_bind, run_under ht.u, Result.andThen_ok, ht.s]
  simp [Std.Legacy.Range.forIn_eq_forIn_range', Std.Legacy.Range.size, List.range', Sem.run_bind, hp, he]
  by_cases h0 : a0 = b0 <;> by_cases h1 : a1 = b1 <;> by_cases h2 : a2 = b2 <;> by_cases h3 : a3 = b3 <;> simp [h0, h1, h2, h3]
end
instance : ArrT Tryd.prog 24 4 22 .u64 := ⟨Tryd.underlying24, Tryd.sizeOf22, Tryd.isAgg22, Tryd.underlying22, by kernel_rfl⟩
instance : ArrT Tryd.prog 61 24 5 .u8 := ⟨Tryd.underlying61, Tryd.sizeOf5, Tryd.isAgg5, Tryd.underlying5, by kernel_rfl⟩

/-- The number's part of 64 bits. -/
def lb (N i : Nat) : Nat := N / m64 ^ i % m64
def m256 : Nat := m64 ^ 4
/-- What holds a number of 256 bits. -/
def uc (f : Nat → Nat) : Array Value := #[.int .u64 (f 0 : Nat), .int .u64 (f 1 : Nat), .int .u64 (f 2 : Nat), .int .u64 (f 3 : Nat)]
def uv (N : Nat) : Value := .agg (uc (lb N))
theorem lb_lt (N i : Nat) : lb N i < m64 := Nat.mod_lt _ (by decide)
theorem lb_sum (N : Nat) (h : N < m256) : N = lb N 0 + m64 * (lb N 1 + m64 * (lb N 2 + m64 * lb N 3)) := by
  unfold m256 m64 at h
  unfold lb m64
  simp only [Nat.pow_zero, Nat.div_one, Nat.pow_one]
  omega
theorem lb_of (f : Nat → Nat) (hf : ∀ i, f i < m64) : (∀ i, i < 4 → lb (f 0 + m64 * (f 1 + m64 * (f 2 + m64 * f 3))) i = f i) ∧ f 0 + m64 * (f 1 + m64 * (f 2 + m64 * f 3)) < m256 := by
  have h0 := hf 0
  have h1 := hf 1
  have h2 := hf 2
  have h3 := hf 3
  unfold m256
  unfold lb
  unfold m64 at *
  refine ⟨fun i hi => ?_, by omega⟩
  obtain rfl | rfl | rfl | rfl : i = 0 ∨ i = 1 ∨ i = 2 ∨ i = 3 := by omega
  all_goals first | omega | (simp only [Nat.pow_zero, Nat.div_one, Nat.pow_one]; omega)
theorem lb_inj {N M : Nat} (hN : N < m256) (hM : M < m256) : (lb N 0 = lb M 0 ∧ lb N 1 = lb M 1 ∧ lb N 2 = lb M 2 ∧ lb N 3 = lb M 3) ↔ N = M := by
  constructor
  · rintro ⟨h0, h1, h2, h3⟩
    rw [lb_sum N hN, lb_sum M hM, h0, h1, h2, h3]
  · rintro rfl; exact ⟨rfl, rfl, rfl, rfl⟩
theorem uc_size (f : Nat → Nat) : (uc f).size = 4 := rfl
theorem uc_get (f : Nat → Nat) (i : Nat) (h : i < 4) : (uc f)[i]? = some (.int .u64 (f i : Nat)) := by
  obtain rfl | rfl | rfl | rfl : i = 0 ∨ i = 1 ∨ i = 2 ∨ i = 3 := by omega
  all_goals rfl
theorem uc_set (f : Nat → Nat) (i v : Nat) (h : i < 4) : (uc f).setIfInBounds i (.int .u64 (v : Nat)) = uc (fun j => if j = i then v else f j) := by
  obtain rfl | rfl | rfl | rfl : i = 0 ∨ i = 1 ∨ i = 2 ∨ i = 3 := by omega
  all_goals rfl
section
variable {e : Env} {w : World} {K : Value → World → Prop} {ty : TypeId} {x y : Operand} {t' : TypeId}
theorem OpW.eqlU {N M : Nat} (hx : ev e x = uv N) (hy : ev e y = uv M) (hN : N < m256) (hM : M < m256) (h : K (.bool (decide (N = M))) w) : OpW Tryd.prog (.binOp .eql 24 x y t') ty e w K := by
  refine OpW.bin hx hy (v := .bool (decide (N = M))) (w' := w) ?_ h
  rw [Sem.run_bind, uv, uv, run_eqGuard_agg _ _ _ _ _ _ _ (ArrT.q (P := Tryd.prog) (t := 24)), Result.andThen_ok, run_eql_struct]
  unfold uc
  rw [run_eq4]
  simp only [Result.andThen_ok, Int.ofNat_inj]
  have := lb_inj hN hM
  simp only [this]
theorem OpW.neqU {N M : Nat} (hx : ev e x = uv N) (hy : ev e y = uv M) (hN : N < m256) (hM : M < m256) (h : K (.bool (decide (¬ N = M))) w) : OpW Tryd.prog (.binOp .neq 24 x y t') ty e w K := by
  refine OpW.bin hx hy (v := .bool (decide (¬ N = M))) (w' := w) ?_ h
  rw [Sem.run_bind, uv, uv, run_eqGuard_agg _ _ _ _ _ _ _ (ArrT.q (P := Tryd.prog) (t := 24)), Result.andThen_ok, run_neq_struct]
  unfold uc
  rw [run_eq4]
  simp only [Result.andThen_ok, Int.ofNat_inj]
  have := lb_inj hN hM
  simp only [this, decide_not]
end
end B
end Go.Proofs.YtbcmmamipjbfpaaDoor
