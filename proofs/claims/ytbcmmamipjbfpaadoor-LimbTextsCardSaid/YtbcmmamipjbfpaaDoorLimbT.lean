/- The document's long and short: a number as 32 bytes, the lowest first. Condition: below 2^256. -/
import Derived.Test.YtbcmmamipjbfpaaDoorLimbS
import Derived.Test.YtbcmmamipjbfpaaDoorLimbJ
import Derived.Test.YtbcmmamipjbfpaaDoorHeld2
namespace Go.Proofs.YtbcmmamipjbfpaaDoor
namespace B
set_option linter.unusedVariables false
set_option linter.unusedSimpArgs false
set_option maxRecDepth 4000

/-- The j-th byte, from the lowest. -/
def lo (N j : Nat) : Nat := N / 256 ^ j % 256
theorem lo_lt (N j : Nat) : lo N j < 256 := Nat.mod_lt _ (by decide)
/-- Cells of int. -/
def li (f : Nat → Nat) (m : Nat) : List Value := (List.range m).map fun j => Value.int .i64 (f j : Nat)
theorem li_length (f : Nat → Nat) (m : Nat) : (li f m).length = m := by simp [li]
theorem li_get (f : Nat → Nat) (m j : Nat) (h : j < m) : (li f m)[j]? = some (.int .i64 (f j : Nat)) := by simp [li, h]
theorem li_snoc (f : Nat → Nat) (m : Nat) : li f (m + 1) = li f m ++ [.int .i64 (f m : Nat)] := by simp [li, List.range_succ]
theorem li_congr {f g : Nat → Nat} {m : Nat} (h : ∀ j, j < m → f j = g j) : li f m = li g m := by
  unfold li
  exact List.map_congr_left fun j hj => by rw [h j (List.mem_range.1 hj)]
theorem li_set (f : Nat → Nat) (m i x : Nat) (h : i < m) : (li f m).set i (.int .i64 (x : Nat)) = li (fun j => if j = i then x else f j) m := by
  apply List.ext_getElem?
  intro j
  rw [List.getElem?_set, li_length]
  by_cases hj : j < m
  · rw [li_get _ m j hj, li_get _ m j hj]
    by_cases h2 : i = j
    · rw [if_pos h2, if_pos (by omega), if_pos h2.symm]
    · rw [if_neg h2, if_neg (fun e => h2 e.symm)]
  · rw [if_neg (by omega), List.getElem?_eq_none (by rw [li_length]; omega), List.getElem?_eq_none (by rw [li_length]; omega)]
theorem li_one (f : Nat → Nat) (m : Nat) : ∀ u ∈ li f m, u.oneCell' = true := by
  intro u hu
  unfold li at hu
  obtain ⟨j, _, rfl⟩ := List.mem_map.1 hu
  rfl
theorem lb_lo (N j : Nat) (hj : j < 32) : lb N (j / 8) / 2 ^ (8 * (j % 8)) % 256 = lo N j := by
  have h := congrArg UInt8.toNat (lb_byte N j hj)
  unfold by8 at h
  rw [UInt8.toNat_ofNat', UInt8.toNat_ofNat'] at h
  exact h
theorem p256 (k : Nat) : 2 ^ (8 * k) = 256 ^ k := by rw [Nat.pow_mul]
/-- The part of 64 bits, as i bytes of the number make it up. -/
def sh (N i j : Nat) : Nat := lb N j % 256 ^ (min 8 (i - 8 * j))
theorem sh_zero (N j : Nat) : sh N 0 j = 0 := by unfold sh; rw [Nat.zero_sub, Nat.min_eq_right (Nat.zero_le _), Nat.pow_zero, Nat.mod_one]
theorem sh_last (N j : Nat) (hj : j < 4) : sh N 32 j = lb N j := by
  unfold sh
  rw [show min 8 (32 - 8 * j) = 8 from by omega]
  exact Nat.mod_eq_of_lt (lb_lt N j)
theorem sh_next (N i : Nat) (hi : i < 32) : sh N (i + 1) (i / 8) = lo N i * 2 ^ (8 * (i % 8)) + sh N i (i / 8) ∧ sh N i (i / 8) < 2 ^ (8 * (i % 8)) := by
  unfold sh
  rw [show min 8 (i + 1 - 8 * (i / 8)) = i % 8 + 1 from by omega, show min 8 (i - 8 * (i / 8)) = i % 8 from by omega, ← lb_lo N i hi, p256]
  refine ⟨?_, Nat.mod_lt _ (Nat.pow_pos (by decide))⟩
  rw [Nat.mod_pow_succ, Nat.mul_comm (lb N (i / 8) / 256 ^ (i % 8) % 256)]
  omega
theorem sh_other (N i j : Nat) (h : j ≠ i / 8) : sh N (i + 1) j = sh N i j := by
  unfold sh
  congr 2
  omega
theorem shl_lt (N i : Nat) (hi : i < 32) : lo N i * 2 ^ (8 * (i % 8)) < m64 := by
  have h := lo_lt N i
  have h1 : lo N i * 2 ^ (8 * (i % 8)) < 256 * 2 ^ (8 * (i % 8)) := Nat.mul_lt_mul_of_pos_right h (Nat.pow_pos (by decide))
  have h2 : 256 * 2 ^ (8 * (i % 8)) = 2 ^ (8 + 8 * (i % 8)) := by rw [Nat.pow_add]
  have h3 : 2 ^ (8 + 8 * (i % 8)) ≤ 2 ^ 64 := Nat.pow_le_pow_right (by decide) (by omega)
  have h4 : m64 = 2 ^ 64 := rfl
  omega
section
variable {P : Program} {e : Env} {w : World} {K : Value → World → Prop} {ty : TypeId} {t t' : TypeId} {x y : Operand}
theorem OpW.and255 {a : Nat} (hx : ev e x = .int .u64 (a : Nat)) (hy : ev e y = .int .u64 255) (ha : a < m64) (h : K (.int .u64 ((a % 256 : Nat) : Int)) w) : OpW P (.binOp .and t x y t') ty e w K := by
  refine OpW.bits (op := .and) ((a % 256 : Nat) : Int) hx hy ?_ (Or.inl rfl) h
  have h1 := bits_and_u64_nat a 255 (by unfold m64 at ha; exact ha) (by omega)
  show Sem.run P (pure (Value.int .u64 (Go.bits .and .u64 (a : Int) ((255 : Nat) : Int)))) w = _
  rw [h1, show a &&& 255 = a % 256 from Nat.and_two_pow_sub_one_eq_mod a 8]
  rfl
/-- Low bits | high bits. -/
theorem OpW.orL (s : Nat) {a c : Nat} (hx : ev e x = .int .u64 (c : Nat)) (hy : ev e y = .int .u64 ((a * 2 ^ s : Nat) : Int)) (hc : c < 2 ^ s) (hl : a * 2 ^ s < m64) (hs : s ≤ 64) (h : K (.int .u64 ((a * 2 ^ s + c : Nat) : Int)) w) : OpW P (.binOp .or t x y t') ty e w K := by
  refine OpW.bits (op := .or) ((a * 2 ^ s + c : Nat) : Int) hx hy ?_ (Or.inr (Or.inl rfl)) h
  have hlt : a * 2 ^ s + c < m64 := by
    have h1 : a * 2 ^ s + 2 ^ s ≤ m64 := by
      obtain ⟨d, hd⟩ : ∃ d, m64 = d * 2 ^ s := ⟨2 ^ (64 - s), by rw [← Nat.pow_add, show 64 - s + s = 64 from by omega]; rfl⟩
      rw [hd] at hl ⊢
      have := Nat.lt_of_mul_lt_mul_right hl
      rw [← Nat.succ_mul]
      exact Nat.mul_le_mul_right _ this
    omega
  have h1 := bits_or_u64_nat c (a * 2 ^ s) (by unfold m64 at hlt; omega) hl
  show Sem.run P (pure (Value.int .u64 (Go.bits .or .u64 (c : Int) ((a * 2 ^ s : Nat) : Int)))) w = _
  rw [h1, Nat.or_comm, Nat.mul_comm a, ← Nat.two_pow_add_eq_or_of_lt hc a]
  rfl
end
theorem sl_lt {w : World} {A : Option Addr} {cs : List Value} (h : Sl w A cs) {i : Nat} (hi : i < cs.length) : ∀ a, A = some a → a.block < w.heap.size := by
  intro a ha
  obtain ⟨a', h1, h2, h3⟩ := h i cs[i] (by simp [hi])
  rw [ha] at h1
  cases h1
  exact World.block_lt_of_cell? w ⟨a.block, a.off + i, none⟩ h3
attribute [local irreducible] OpW WL CW Ret Sl Blk thn blk outOf
set_option linter.unusedVariables false
set_option linter.unusedSimpArgs false
/-- What the document's long hands back. -/
def NewLong (w w' : World) (v : Value) (N : Nat) : Prop := ∃ A cap, v = .slice A 32 cap ∧ Own w' A 3 1 32 cap (li (lo N) 32) (fresh w) ∧ Grow w w'
set_option maxHeartbeats 1000000 in
theorem long34 (N : Nat) (hN : N < m256) (w : World) : Ret Tryd.prog 34 #[uv N] w fun v w' => NewLong w w' v N := by
  refine Ret.enter (fn := Tryd.f34) (N := 27) Tryd.func34 rfl Tryd.ntmps34 rfl ?_
  repeat (first | refine WL.nil ?_ | refine WL.auto (h := ?_) | refine WL.gskip rfl rfl rfl rfl ?_ | refine WL.gauto (h := ?_) | (refine CW.seq ?_; intro K hK) | refine CW.block ?_ | refine CW.region ?_ | refine CW.skip ?_ | refine CW.exit ?_ | refine CW.ret ?_ | (refine thn_ret (K := K) ?_; clear hK K) | refine thn_ret ?_ | refine blk_ret ?_ | (refine thn_exit (K := K) ?_; clear hK K) | refine thn_exit ?_ | refine blk_here ?_ | refine blk_past rfl ?_ | refine thn_norm ?_ | refine blk_norm ?_ | refine CW.condT rfl ?_ | refine CW.condF rfl ?_ | (refine hK _ _ ?_; clear hK K))
  first | refine WL.step rfl ?_ | refine WL.gstep rfl rfl rfl rfl ?_
  refine OpW.box (v := uv N) rfl ?_
  intro b1 w1 n1
  have hb1 : Blk w1 b1 (uc (lb N)) 24 := n1.blk
  have g1 := n1.grow
  have l1 := hb1.lt
  clear n1
  repeat (first | refine WL.nil ?_ | refine WL.auto (h := ?_) | refine WL.gskip rfl rfl rfl rfl ?_ | refine WL.gauto (h := ?_) | (refine CW.seq ?_; intro K hK) | refine CW.block ?_ | refine CW.region ?_ | refine CW.skip ?_ | refine CW.exit ?_ | refine CW.ret ?_ | (refine thn_ret (K := K) ?_; clear hK K) | refine thn_ret ?_ | refine blk_ret ?_ | (refine thn_exit (K := K) ?_; clear hK K) | refine thn_exit ?_ | refine blk_here ?_ | refine blk_past rfl ?_ | refine thn_norm ?_ | refine blk_norm ?_ | refine CW.condT rfl ?_ | refine CW.condF rfl ?_ | (refine hK _ _ ?_; clear hK K))
  refine CW.loop (fun n' e w3 => ∃ i A cap, i ≤ 4 ∧ n' = 4 - i ∧ Blk w3 b1 (uc (lb N)) 24 ∧ Own w3 A 3 1 (8 * i) cap (li (lo N) (8 * i)) (fresh w1) ∧ Grow w w3 ∧ w1.heap.size ≤ w3.heap.size ∧
    ∃ e0, e = upd (upd (upd e0 1 (.pointer (some ⟨b1, 0, none⟩))) 3 (.slice A (8 * i) cap)) 4 (.int .i64 i)) 4 ?_ ?_
  · exact ⟨0, none, 0, by omega, rfl, hb1, Own.nil _ _ _ _, g1, Nat.le_refl _, rep3 rfl rfl rfl⟩
  clear hb1
  rintro n' e w3 ⟨i, A, cap, hi, rfl, hb1, ho, g3, s3, e0, rfl⟩ KJ hJ
  repeat (first | refine WL.nil ?_ | refine WL.auto (h := ?_) | refine WL.gskip rfl rfl rfl rfl ?_ | refine WL.gauto (h := ?_) | (refine CW.seq ?_; intro K hK) | refine CW.block ?_ | refine CW.region ?_ | refine CW.skip ?_ | refine CW.exit ?_ | refine CW.ret ?_ | (refine thn_ret (K := K) ?_; clear hK K) | refine thn_ret ?_ | refine blk_ret ?_ | (refine thn_exit (K := K) ?_; clear hK K) | refine thn_exit ?_ | refine blk_here ?_ | refine blk_past rfl ?_ | refine thn_norm ?_ | refine blk_norm ?_ | refine CW.condT rfl ?_ | refine CW.condF rfl ?_ | (refine hK _ _ ?_; clear hK K))
  refine CW.condP rfl (fun h1 => ?_) (fun h1 => ?_)
  · have hi4 : i < 4 := by omega
    repeat (first | refine WL.nil ?_ | refine WL.auto (h := ?_) | refine WL.gskip rfl rfl rfl rfl ?_ | refine WL.gauto (h := ?_) | (refine CW.seq ?_; intro K hK) | refine CW.block ?_ | refine CW.region ?_ | refine CW.skip ?_ | refine CW.exit ?_ | refine CW.ret ?_ | (refine thn_ret (K := K) ?_; clear hK K) | refine thn_ret ?_ | refine blk_ret ?_ | (refine thn_exit (K := K) ?_; clear hK K) | refine thn_exit ?_ | refine blk_here ?_ | refine blk_past rfl ?_ | refine thn_norm ?_ | refine blk_norm ?_ | refine CW.condT rfl ?_ | refine CW.condF rfl ?_ | (refine hK _ _ ?_; clear hK K))
    have key : ∀ w5 A5 cap5, Blk w5 b1 (uc (lb N)) 24 → Own w5 A5 3 1 (8 * i + 8) cap5 (li (lo N) (8 * i + 8)) (fresh w1) → Grow w w5 → w1.heap.size ≤ w5.heap.size → ∀ e0, K (upd (upd (upd e0 1 (.pointer (some ⟨b1, 0, none⟩))) 3 (.slice A5 (8 * i + 8) cap5)) 4 (.int .i64 i)) w5 := by
      intro w5 A5 cap5 hb5 ho5 g5 s5 e0
      refine hK _ _ ?_
      clear hK
      repeat (first | refine WL.nil ?_ | refine WL.auto (h := ?_) | refine WL.gskip rfl rfl rfl rfl ?_ | refine WL.gauto (h := ?_) | (refine CW.seq ?_; intro K hK) | refine CW.block ?_ | refine CW.region ?_ | refine CW.skip ?_ | refine CW.exit ?_ | refine CW.ret ?_ | (refine thn_ret (K := K) ?_; clear hK K) | refine thn_ret ?_ | refine blk_ret ?_ | (refine thn_exit (K := K) ?_; clear hK K) | refine thn_exit ?_ | refine blk_here ?_ | refine blk_past rfl ?_ | refine thn_norm ?_ | refine blk_norm ?_ | refine CW.condT rfl ?_ | refine CW.condF rfl ?_ | (refine hK _ _ ?_; clear hK K))
      exact hJ (4 - (i + 1)) _ _ (by omega) ⟨i + 1, A5, cap5, by omega, rfl, hb5, ho5, g5, s5, rep3 rfl rfl (congrArg (Value.int .i64) (by omega))⟩
    clear hK
    refine CW.loop (fun n' e w5 => ∃ k A5 cap5, k ≤ 8 ∧ n' = 8 - k ∧ Blk w5 b1 (uc (lb N)) 24 ∧ Own w5 A5 3 1 (8 * i + k) cap5 (li (lo N) (8 * i + k)) (fresh w1) ∧ Grow w w5 ∧ w1.heap.size ≤ w5.heap.size ∧
      ∃ e0, e = upd (upd (upd (upd e0 1 (.pointer (some ⟨b1, 0, none⟩))) 3 (.slice A5 (8 * i + k) cap5)) 4 (.int .i64 i)) 5 (.int .i64 k)) 8 ?_ ?_
    · exact ⟨0, A, cap, by omega, rfl, hb1, ho, g3, s3, rep4 rfl rfl rfl rfl⟩
    clear hb1 ho g3 s3
    rintro n' e w3 ⟨k, A, cap, hk, rfl, hb1, ho, g3, s3, e0, rfl⟩ KJ2 hJ2
    repeat (first | refine WL.nil ?_ | refine WL.auto (h := ?_) | refine WL.gskip rfl rfl rfl rfl ?_ | refine WL.gauto (h := ?_) | (refine CW.seq ?_; intro K hK) | refine CW.block ?_ | refine CW.region ?_ | refine CW.skip ?_ | refine CW.exit ?_ | refine CW.ret ?_ | (refine thn_ret (K := K) ?_; clear hK K) | refine thn_ret ?_ | refine blk_ret ?_ | (refine thn_exit (K := K) ?_; clear hK K) | refine thn_exit ?_ | refine blk_here ?_ | refine blk_past rfl ?_ | refine thn_norm ?_ | refine blk_norm ?_ | refine CW.condT rfl ?_ | refine CW.condF rfl ?_ | (refine hK _ _ ?_; clear hK K))
    refine CW.condP rfl (fun h2 => ?_) (fun h2 => ?_)
    · have hk8 : k < 8 := by omega
      have hlo := lb_lo N (8 * i + k) (by omega)
      rw [show (8 * i + k) / 8 = i from by omega, show (8 * i + k) % 8 = k from by omega] at hlo
      have hsm : lb N i / 2 ^ (8 * k) < m64 := Nat.lt_of_le_of_lt (Nat.div_le_self _ _) (lb_lt N i)
      have hl2 := lo_lt N (8 * i + k)
      repeat (first | refine WL.nil ?_ | refine WL.auto (h := ?_) | refine WL.gskip rfl rfl rfl rfl ?_ | refine WL.gauto (h := ?_) | (refine CW.seq ?_; intro K hK) | refine CW.block ?_ | refine CW.region ?_ | refine CW.skip ?_ | refine CW.exit ?_ | refine CW.ret ?_ | (refine thn_ret (K := K) ?_; clear hK K) | refine thn_ret ?_ | refine blk_ret ?_ | (refine thn_exit (K := K) ?_; clear hK K) | refine thn_exit ?_ | refine blk_here ?_ | refine blk_past rfl ?_ | refine thn_norm ?_ | refine blk_norm ?_ | refine CW.condT rfl ?_ | refine CW.condF rfl ?_ | (refine hK _ _ ?_; clear hK K))
      first | refine WL.step rfl ?_ | refine WL.gstep rfl rfl rfl rfl ?_
      refine OpW.idxA i rfl rfl rfl (by omega) ?_
      repeat (first | refine WL.nil ?_ | refine WL.auto (h := ?_) | refine WL.gskip rfl rfl rfl rfl ?_ | refine WL.gauto (h := ?_) | (refine CW.seq ?_; intro K hK) | refine CW.block ?_ | refine CW.region ?_ | refine CW.skip ?_ | refine CW.exit ?_ | refine CW.ret ?_ | (refine thn_ret (K := K) ?_; clear hK K) | refine thn_ret ?_ | refine blk_ret ?_ | (refine thn_exit (K := K) ?_; clear hK K) | refine thn_exit ?_ | refine blk_here ?_ | refine blk_past rfl ?_ | refine thn_norm ?_ | refine blk_norm ?_ | refine CW.condT rfl ?_ | refine CW.condF rfl ?_ | (refine hK _ _ ?_; clear hK K))
      first | refine WL.step rfl ?_ | refine WL.gstep rfl rfl rfl rfl ?_
      refine OpW.load (v := .int .u64 (lb N i : Nat)) rfl hb1 (by rw [Nat.zero_add]; exact uc_get _ _ (by omega)) ?_
      repeat (first | refine WL.nil ?_ | refine WL.auto (h := ?_) | refine WL.gskip rfl rfl rfl rfl ?_ | refine WL.gauto (h := ?_) | (refine CW.seq ?_; intro K hK) | refine CW.block ?_ | refine CW.region ?_ | refine CW.skip ?_ | refine CW.exit ?_ | refine CW.ret ?_ | (refine thn_ret (K := K) ?_; clear hK K) | refine thn_ret ?_ | refine blk_ret ?_ | (refine thn_exit (K := K) ?_; clear hK K) | refine thn_exit ?_ | refine blk_here ?_ | refine blk_past rfl ?_ | refine thn_norm ?_ | refine blk_norm ?_ | refine CW.condT rfl ?_ | refine CW.condF rfl ?_ | (refine hK _ _ ?_; clear hK K))
      first | refine WL.step rfl ?_ | refine WL.gstep rfl rfl rfl rfl ?_
      refine OpW.shrN (8 * k) rfl rfl (by omega) (by show 8 * k ≤ 64; omega) ?_
      repeat (first | refine WL.nil ?_ | refine WL.auto (h := ?_) | refine WL.gskip rfl rfl rfl rfl ?_ | refine WL.gauto (h := ?_) | (refine CW.seq ?_; intro K hK) | refine CW.block ?_ | refine CW.region ?_ | refine CW.skip ?_ | refine CW.exit ?_ | refine CW.ret ?_ | (refine thn_ret (K := K) ?_; clear hK K) | refine thn_ret ?_ | refine blk_ret ?_ | (refine thn_exit (K := K) ?_; clear hK K) | refine thn_exit ?_ | refine blk_here ?_ | refine blk_past rfl ?_ | refine thn_norm ?_ | refine blk_norm ?_ | refine CW.condT rfl ?_ | refine CW.condF rfl ?_ | (refine hK _ _ ?_; clear hK K))
      first | refine WL.step rfl ?_ | refine WL.gstep rfl rfl rfl rfl ?_
      refine OpW.and255 rfl rfl hsm ?_
      rw [hlo]
      repeat (first | refine WL.nil ?_ | refine WL.auto (h := ?_) | refine WL.gskip rfl rfl rfl rfl ?_ | refine WL.gauto (h := ?_) | (refine CW.seq ?_; intro K hK) | refine CW.block ?_ | refine CW.region ?_ | refine CW.skip ?_ | refine CW.exit ?_ | refine CW.ret ?_ | (refine thn_ret (K := K) ?_; clear hK K) | refine thn_ret ?_ | refine blk_ret ?_ | (refine thn_exit (K := K) ?_; clear hK K) | refine thn_exit ?_ | refine blk_here ?_ | refine blk_past rfl ?_ | refine thn_norm ?_ | refine blk_norm ?_ | refine CW.condT rfl ?_ | refine CW.condF rfl ?_ | (refine hK _ _ ?_; clear hK K))
      first | refine WL.step rfl ?_ | refine WL.gstep rfl rfl rfl rfl ?_
      refine OpW.buildLit [.int .i64 (lo N (8 * i + k) : Nat)] rfl rfl rfl (by intro v hv; simp only [List.mem_cons, List.not_mem_nil, or_false] at hv; subst hv; rfl) ?_
      intro b11 w11 n11
      have hsl : Sl w11 (some ⟨b11, 0, none⟩) [Value.int .i64 (lo N (8 * i + k) : Nat)] := n11.blk.slAll _ rfl
      repeat (first | refine WL.nil ?_ | refine WL.auto (h := ?_) | refine WL.gskip rfl rfl rfl rfl ?_ | refine WL.gauto (h := ?_) | (refine CW.seq ?_; intro K hK) | refine CW.block ?_ | refine CW.region ?_ | refine CW.skip ?_ | refine CW.exit ?_ | refine CW.ret ?_ | (refine thn_ret (K := K) ?_; clear hK K) | refine thn_ret ?_ | refine blk_ret ?_ | (refine thn_exit (K := K) ?_; clear hK K) | refine thn_exit ?_ | refine blk_here ?_ | refine blk_past rfl ?_ | refine thn_norm ?_ | refine blk_norm ?_ | refine CW.condT rfl ?_ | refine CW.condF rfl ?_ | (refine hK _ _ ?_; clear hK K))
      first | refine WL.step rfl ?_ | refine WL.gstep rfl rfl rfl rfl ?_
      refine OpW.append (ys := [.int .i64 (lo N (8 * i + k) : Nat)]) rfl rfl rfl (ho.grow n11.grow) hsl rfl (by intro v hv; simp only [List.mem_cons, List.not_mem_nil, or_false] at hv; subst hv; rfl) ⟨by omega, by omega⟩ (fun A' cap' w12 h12 c12 hn12 => ?_)
      rw [← li_snoc] at h12
      have hA : ∀ a, A = some a → w1.heap.size ≤ a.block := fun a ha => (ho.in_ ha).1
      have hne : ¬ (∃ a, A = some a ∧ a.block = b1) := fun ⟨a, h3, h4⟩ => by have := hA a h3; omega
      have s11 := n11.grow.size
      have s12 := c12.size
      have s1 := g1.size
      repeat (first | refine WL.nil ?_ | refine WL.auto (h := ?_) | refine WL.gskip rfl rfl rfl rfl ?_ | refine WL.gauto (h := ?_) | (refine CW.seq ?_; intro K hK) | refine CW.block ?_ | refine CW.region ?_ | refine CW.skip ?_ | refine CW.exit ?_ | refine CW.ret ?_ | (refine thn_ret (K := K) ?_; clear hK K) | refine thn_ret ?_ | refine blk_ret ?_ | (refine thn_exit (K := K) ?_; clear hK K) | refine thn_exit ?_ | refine blk_here ?_ | refine blk_past rfl ?_ | refine thn_norm ?_ | refine blk_norm ?_ | refine CW.condT rfl ?_ | refine CW.condF rfl ?_ | (refine hK _ _ ?_; clear hK K))
      exact hJ2 (8 - (k + 1)) _ _ (by omega) ⟨k + 1, A', cap', by omega, rfl, (hb1.grow n11.grow).keep c12 hne, h12.mono (by
        rintro b (⟨a, h3, rfl⟩ | h3)
        · exact hA a h3
        · exact Nat.le_trans (Nat.le_trans s3 s11) h3), (g3.then n11.grow).chgNew c12 (by
        rintro j hj ⟨a, h3, rfl⟩
        have := hA a h3
        omega), by omega, rep4 rfl rfl rfl (congrArg (Value.int .i64) (by omega))⟩
    · obtain rfl : k = 8 := by omega
      repeat (first | refine WL.nil ?_ | refine WL.auto (h := ?_) | refine WL.gskip rfl rfl rfl rfl ?_ | refine WL.gauto (h := ?_) | (refine CW.seq ?_; intro K hK) | refine CW.block ?_ | refine CW.region ?_ | refine CW.skip ?_ | refine CW.exit ?_ | refine CW.ret ?_ | (refine thn_ret (K := K) ?_; clear hK K) | refine thn_ret ?_ | refine blk_ret ?_ | (refine thn_exit (K := K) ?_; clear hK K) | refine thn_exit ?_ | refine blk_here ?_ | refine blk_past rfl ?_ | refine thn_norm ?_ | refine blk_norm ?_ | refine CW.condT rfl ?_ | refine CW.condF rfl ?_ | (refine hK _ _ ?_; clear hK K))
      exact K_of' (key _ A cap hb1 ho g3 s3) (rep3 rfl rfl rfl)
  · obtain rfl : i = 4 := by omega
    repeat (first | refine WL.nil ?_ | refine WL.auto (h := ?_) | refine WL.gskip rfl rfl rfl rfl ?_ | refine WL.gauto (h := ?_) | (refine CW.seq ?_; intro K hK) | refine CW.block ?_ | refine CW.region ?_ | refine CW.skip ?_ | refine CW.exit ?_ | refine CW.ret ?_ | (refine thn_ret (K := K) ?_; clear hK K) | refine thn_ret ?_ | refine blk_ret ?_ | (refine thn_exit (K := K) ?_; clear hK K) | refine thn_exit ?_ | refine blk_here ?_ | refine blk_past rfl ?_ | refine thn_norm ?_ | refine blk_norm ?_ | refine CW.condT rfl ?_ | refine CW.condF rfl ?_ | (refine hK _ _ ?_; clear hK K))
    exact out1 Tryd.results34 rfl ⟨A, cap, rfl, ho.mono fun b hb => Nat.le_trans g1.size hb, g3⟩ (Or.inr rfl)
set_option maxHeartbeats 1000000 in
theorem short33 (N : Nat) (hN : N < m256) (A : Option Addr) (n cap : Nat) (hn : n = 32) (w : World) (hs : Sl w A (li (lo N) 32)) : Ret Tryd.prog 33 #[.slice A n cap] w fun v w' => v = uv N ∧ Grow w w' := by
  subst hn
  have hA : A ≠ none := sl_ne hs (i := 0) (by rw [li_length]; decide)
  have hsp := sl_sp hs (i := 0) (by rw [li_length]; decide)
  refine Ret.enter (fn := Tryd.f33) (N := 26) Tryd.func33 rfl Tryd.ntmps33 rfl ?_
  repeat (first | refine WL.nil ?_ | refine WL.auto (h := ?_) | refine WL.gskip rfl rfl rfl rfl ?_ | refine WL.gauto (h := ?_) | (refine CW.seq ?_; intro K hK) | refine CW.block ?_ | refine CW.region ?_ | refine CW.skip ?_ | refine CW.exit ?_ | refine CW.ret ?_ | (refine thn_ret (K := K) ?_; clear hK K) | refine thn_ret ?_ | refine blk_ret ?_ | (refine thn_exit (K := K) ?_; clear hK K) | refine thn_exit ?_ | refine blk_here ?_ | refine blk_past rfl ?_ | refine thn_norm ?_ | refine blk_norm ?_ | refine CW.condT rfl ?_ | refine CW.condF rfl ?_ | (refine hK _ _ ?_; clear hK K))
  first | refine WL.step rfl ?_ | refine WL.gstep rfl rfl rfl rfl ?_
  refine OpW.alloc (fun b2 w1 n1 => ?_)
  have hb2 : Blk w1 b2 (uc fun _ => 0) 24 := n1.blk
  have f2 := n1.fresh
  have g1 := n1.grow
  replace hs := hs.grow n1.grow
  clear n1
  repeat (first | refine WL.nil ?_ | refine WL.auto (h := ?_) | refine WL.gskip rfl rfl rfl rfl ?_ | refine WL.gauto (h := ?_) | (refine CW.seq ?_; intro K hK) | refine CW.block ?_ | refine CW.region ?_ | refine CW.skip ?_ | refine CW.exit ?_ | refine CW.ret ?_ | (refine thn_ret (K := K) ?_; clear hK K) | refine thn_ret ?_ | refine blk_ret ?_ | (refine thn_exit (K := K) ?_; clear hK K) | refine thn_exit ?_ | refine blk_here ?_ | refine blk_past rfl ?_ | refine thn_norm ?_ | refine blk_norm ?_ | refine CW.condT rfl ?_ | refine CW.condF rfl ?_ | (refine hK _ _ ?_; clear hK K))
  first | refine WL.step rfl ?_ | refine WL.gstep rfl rfl rfl rfl ?_
  refine OpW.alloc (fun b3 w2 n2 => ?_)
  have hb3 : Blk w2 b3 (uc (sh N 0)) 24 := by
    rw [uc_congr (g := fun _ => 0) fun i _ => sh_zero N i]; exact n2.blk
  have n23 : ¬ b2 = b3 := fun e => by have := hb2.lt; have := n2.fresh; omega
  have f3 := n2.fresh
  have z1 := g1.size
  have l2 : b2 < w2.heap.size := Nat.lt_of_lt_of_le hb2.lt n2.grow.size
  have na3 : ∀ a, A = some a → ¬ a.block = b3 := fun a ha e => by
    have := sl_lt hs (i := 0) (by rw [li_length]; decide) a ha
    have := n2.fresh
    omega
  replace hb2 := hb2.grow n2.grow
  replace g1 := g1.then n2.grow
  replace hs := hs.grow n2.grow
  clear n2
  repeat (first | refine WL.nil ?_ | refine WL.auto (h := ?_) | refine WL.gskip rfl rfl rfl rfl ?_ | refine WL.gauto (h := ?_) | (refine CW.seq ?_; intro K hK) | refine CW.block ?_ | refine CW.region ?_ | refine CW.skip ?_ | refine CW.exit ?_ | refine CW.ret ?_ | (refine thn_ret (K := K) ?_; clear hK K) | refine thn_ret ?_ | refine blk_ret ?_ | (refine thn_exit (K := K) ?_; clear hK K) | refine thn_exit ?_ | refine blk_here ?_ | refine blk_past rfl ?_ | refine thn_norm ?_ | refine blk_norm ?_ | refine CW.condT rfl ?_ | refine CW.condF rfl ?_ | (refine hK _ _ ?_; clear hK K))
  refine CW.loop (fun n' e w3 => ∃ i, i ≤ 32 ∧ n' = 32 - i ∧ Blk w3 b2 (uc fun _ => 0) 24 ∧ Blk w3 b3 (uc (sh N i)) 24 ∧ Sl w3 A (li (lo N) 32) ∧ Grow w w3 ∧
    ∃ e0, e = upd (upd (upd (upd e0 0 (.slice A 32 cap)) 2 (.pointer (some ⟨b2, 0, none⟩))) 3 (.pointer (some ⟨b3, 0, none⟩))) 4 (.int .i64 i)) 32 ?_ ?_
  · exact ⟨0, by omega, rfl, hb2, hb3, hs, g1, rep4 rfl rfl rfl rfl⟩
  clear hb2 hb3 hs g1
  rintro n' e w3 ⟨i, hi, rfl, hb2, hb3, hs, g3, e0, rfl⟩ KJ hJ
  repeat (first | refine WL.nil ?_ | refine WL.auto (h := ?_) | refine WL.gskip rfl rfl rfl rfl ?_ | refine WL.gauto (h := ?_) | (refine CW.seq ?_; intro K hK) | refine CW.block ?_ | refine CW.region ?_ | refine CW.skip ?_ | refine CW.exit ?_ | refine CW.ret ?_ | (refine thn_ret (K := K) ?_; clear hK K) | refine thn_ret ?_ | refine blk_ret ?_ | (refine thn_exit (K := K) ?_; clear hK K) | refine thn_exit ?_ | refine blk_here ?_ | refine blk_past rfl ?_ | refine thn_norm ?_ | refine blk_norm ?_ | refine CW.condT rfl ?_ | refine CW.condF rfl ?_ | (refine hK _ _ ?_; clear hK K))
  refine CW.condP rfl (fun h1 => ?_) (fun h1 => ?_)
  · have hil : i < 32 := by omega
    obtain ⟨x1, x2⟩ := sh_next N i hil
    have hl := lo_lt N i
    have hsl := shl_lt N i hil
    repeat (first | refine WL.nil ?_ | refine WL.auto (h := ?_) | refine WL.gskip rfl rfl rfl rfl ?_ | refine WL.gauto (h := ?_) | (refine CW.seq ?_; intro K hK) | refine CW.block ?_ | refine CW.region ?_ | refine CW.skip ?_ | refine CW.exit ?_ | refine CW.ret ?_ | (refine thn_ret (K := K) ?_; clear hK K) | refine thn_ret ?_ | refine blk_ret ?_ | (refine thn_exit (K := K) ?_; clear hK K) | refine thn_exit ?_ | refine blk_here ?_ | refine blk_past rfl ?_ | refine thn_norm ?_ | refine blk_norm ?_ | refine CW.condT rfl ?_ | refine CW.condF rfl ?_ | (refine hK _ _ ?_; clear hK K))
    refine CW.held2 16 (fun _ => False) (· = b3) (.take 0 (.take 1 (.take 2 (.take 3 (.take 4 (.take 5 (.take 6 (.take 7 (.take 8 (.take 9 (.take 10 (.take 11 (.take 12 (.take 13 (.take 14 (.take 15 (.one 16 .nil))))))))))))))))) (fun _ h => h.elim) rfl (by kernel_rfl) (by kernel_rfl) (fun w4 g4 => ?_)
    repeat (first | refine AL2.autoU (hn := ?_) | refine AL2.auto (hn := ?_) | refine AL2.gskip rfl rfl rfl rfl rfl ?_ | refine AL2.goneSkip rfl rfl rfl rfl rfl rfl ?_ | refine AL2.gskipU rfl rfl rfl rfl rfl ?_ | refine AL2.goneSkipU rfl rfl rfl rfl rfl rfl ?_ | refine AL2.gautoU (hn := ?_) | refine AL2.gauto (hn := ?_) | refine AL2.oauto (hn := ?_))
    refine AL2.takeU rfl rfl rfl (fun w hg => OpW.quoN (k := .i64) (k' := .i64) (m := 8) rfl rfl rfl (by decide) (by omega) ⟨rfl, rfl⟩) ?_
    repeat (first | refine AL2.autoU (hn := ?_) | refine AL2.auto (hn := ?_) | refine AL2.gskip rfl rfl rfl rfl rfl ?_ | refine AL2.goneSkip rfl rfl rfl rfl rfl rfl ?_ | refine AL2.gskipU rfl rfl rfl rfl rfl ?_ | refine AL2.goneSkipU rfl rfl rfl rfl rfl rfl ?_ | refine AL2.gautoU (hn := ?_) | refine AL2.gauto (hn := ?_) | refine AL2.oauto (hn := ?_))
    refine AL2.takeU rfl rfl rfl (fun w hg => OpW.idxA (i / 8) rfl rfl rfl (by omega) ⟨rfl, rfl⟩) ?_
    repeat (first | refine AL2.autoU (hn := ?_) | refine AL2.auto (hn := ?_) | refine AL2.gskip rfl rfl rfl rfl rfl ?_ | refine AL2.goneSkip rfl rfl rfl rfl rfl rfl ?_ | refine AL2.gskipU rfl rfl rfl rfl rfl ?_ | refine AL2.goneSkipU rfl rfl rfl rfl rfl rfl ?_ | refine AL2.gautoU (hn := ?_) | refine AL2.gauto (hn := ?_) | refine AL2.oauto (hn := ?_))
    refine AL2.take (by kernel_rfl) rfl rfl rfl (fun w hg => OpW.load (v := .int .u64 (sh N i (i / 8) : Nat)) rfl (Blk.keep hb3 hg (fun h => h)) (by rw [Nat.zero_add]; exact uc_get _ _ (by omega)) ⟨rfl, rfl⟩) ?_
    repeat (first | refine AL2.autoU (hn := ?_) | refine AL2.auto (hn := ?_) | refine AL2.gskip rfl rfl rfl rfl rfl ?_ | refine AL2.goneSkip rfl rfl rfl rfl rfl rfl ?_ | refine AL2.gskipU rfl rfl rfl rfl rfl ?_ | refine AL2.goneSkipU rfl rfl rfl rfl rfl rfl ?_ | refine AL2.gautoU (hn := ?_) | refine AL2.gauto (hn := ?_) | refine AL2.oauto (hn := ?_))
    refine AL2.takeU rfl rfl rfl (fun w hg => OpW.indexAddr i rfl rfl rfl hil hA hsp ⟨rfl, rfl⟩) ?_
    repeat (first | refine AL2.autoU (hn := ?_) | refine AL2.auto (hn := ?_) | refine AL2.gskip rfl rfl rfl rfl rfl ?_ | refine AL2.goneSkip rfl rfl rfl rfl rfl rfl ?_ | refine AL2.gskipU rfl rfl rfl rfl rfl ?_ | refine AL2.goneSkipU rfl rfl rfl rfl rfl rfl ?_ | refine AL2.gautoU (hn := ?_) | refine AL2.gauto (hn := ?_) | refine AL2.oauto (hn := ?_))
    refine AL2.takeU rfl rfl rfl (fun w hg => OpW.loadS (v := .int .i64 (lo N i : Nat)) rfl (Sl.keep hs hg na3) (by rw [Nat.mul_one]; exact li_get _ _ _ hil) ⟨rfl, rfl⟩) ?_
    repeat (first | refine AL2.autoU (hn := ?_) | refine AL2.auto (hn := ?_) | refine AL2.gskip rfl rfl rfl rfl rfl ?_ | refine AL2.goneSkip rfl rfl rfl rfl rfl rfl ?_ | refine AL2.gskipU rfl rfl rfl rfl rfl ?_ | refine AL2.goneSkipU rfl rfl rfl rfl rfl rfl ?_ | refine AL2.gautoU (hn := ?_) | refine AL2.gauto (hn := ?_) | refine AL2.oauto (hn := ?_))
    refine AL2.takeU rfl rfl rfl (fun w hg => OpW.remN (m := 8) rfl rfl rfl (by decide) ⟨rfl, rfl⟩) ?_
    repeat (first | refine AL2.autoU (hn := ?_) | refine AL2.auto (hn := ?_) | refine AL2.gskip rfl rfl rfl rfl rfl ?_ | refine AL2.goneSkip rfl rfl rfl rfl rfl rfl ?_ | refine AL2.gskipU rfl rfl rfl rfl rfl ?_ | refine AL2.goneSkipU rfl rfl rfl rfl rfl rfl ?_ | refine AL2.gautoU (hn := ?_) | refine AL2.gauto (hn := ?_) | refine AL2.oauto (hn := ?_))
    refine AL2.takeU rfl rfl rfl (fun w hg => OpW.shlU (8 * (i % 8)) rfl rfl (by omega) (by omega) ⟨rfl, rfl⟩) ?_
    rw [Nat.mod_eq_of_lt hsl]
    repeat (first | refine AL2.autoU (hn := ?_) | refine AL2.auto (hn := ?_) | refine AL2.gskip rfl rfl rfl rfl rfl ?_ | refine AL2.goneSkip rfl rfl rfl rfl rfl rfl ?_ | refine AL2.gskipU rfl rfl rfl rfl rfl ?_ | refine AL2.goneSkipU rfl rfl rfl rfl rfl rfl ?_ | refine AL2.gautoU (hn := ?_) | refine AL2.gauto (hn := ?_) | refine AL2.oauto (hn := ?_))
    refine AL2.takeU rfl rfl rfl (fun w hg => OpW.orL (8 * (i % 8)) rfl rfl x2 hsl (by omega) ⟨rfl, rfl⟩) ?_
    rw [← x1]
    repeat (first | refine AL2.autoU (hn := ?_) | refine AL2.auto (hn := ?_) | refine AL2.gskip rfl rfl rfl rfl rfl ?_ | refine AL2.goneSkip rfl rfl rfl rfl rfl rfl ?_ | refine AL2.gskipU rfl rfl rfl rfl rfl ?_ | refine AL2.goneSkipU rfl rfl rfl rfl rfl rfl ?_ | refine AL2.gautoU (hn := ?_) | refine AL2.gauto (hn := ?_) | refine AL2.oauto (hn := ?_))
    refine AL2.takeU rfl rfl rfl (fun w hg => OpW.idxA (i / 8) rfl rfl rfl (by omega) ⟨rfl, rfl⟩) ?_
    refine AL2.last0 rfl rfl ?_
    refine OpW.store (v := .int .u64 (sh N (i + 1) (i / 8) : Nat)) rfl rfl rfl (hb3.grow g4) (Nat.ble_eq_true_of_le (by rw [uc_size]; omega)) (c' := uc (sh N (i + 1))) (by
      rw [Nat.zero_add, uc_set _ _ _ (by omega)]
      refine uc_congr fun j _ => ?_
      by_cases h2 : j = i / 8
      · rw [if_pos h2, h2]
      · rw [if_neg h2, sh_other N i j h2]) ?_
    intro w5 p5 hb5
    refine ⟨fun h => (Chg.to h : Chg (· = b3) _ _).andThen p5.chg, ?_⟩
    repeat (first | refine AL.nil ?_ | refine AL.auto (hn := ?_) | refine AL.gskip rfl rfl rfl rfl rfl ?_ | refine AL.goneSkip rfl rfl rfl rfl rfl ?_ | refine AL.gauto (hn := ?_) | refine AL.oauto (hn := ?_))
    repeat (first | refine WL.nil ?_ | refine WL.auto (h := ?_) | refine WL.gskip rfl rfl rfl rfl ?_ | refine WL.gauto (h := ?_) | (refine CW.seq ?_; intro K hK) | refine CW.block ?_ | refine CW.region ?_ | refine CW.skip ?_ | refine CW.exit ?_ | refine CW.ret ?_ | (refine thn_ret (K := K) ?_; clear hK K) | refine thn_ret ?_ | refine blk_ret ?_ | (refine thn_exit (K := K) ?_; clear hK K) | refine thn_exit ?_ | refine blk_here ?_ | refine blk_past rfl ?_ | refine thn_norm ?_ | refine blk_norm ?_ | refine CW.condT rfl ?_ | refine CW.condF rfl ?_ | (refine hK _ _ ?_; clear hK K))
    exact hJ (32 - (i + 1)) _ _ (by omega) ⟨i + 1, by omega, rfl, (hb2.grow g4).keep p5.chg n23, hb5, (hs.grow g4).keep p5.chg na3, (g3.then g4).chgNew p5.chg (fun i hi e => by omega), rep4 rfl rfl rfl (congrArg (Value.int .i64) (by omega))⟩
  · obtain rfl : i = 32 := by omega
    repeat (first | refine WL.nil ?_ | refine WL.auto (h := ?_) | refine WL.gskip rfl rfl rfl rfl ?_ | refine WL.gauto (h := ?_) | (refine CW.seq ?_; intro K hK) | refine CW.block ?_ | refine CW.region ?_ | refine CW.skip ?_ | refine CW.exit ?_ | refine CW.ret ?_ | (refine thn_ret (K := K) ?_; clear hK K) | refine thn_ret ?_ | refine blk_ret ?_ | (refine thn_exit (K := K) ?_; clear hK K) | refine thn_exit ?_ | refine blk_here ?_ | refine blk_past rfl ?_ | refine thn_norm ?_ | refine blk_norm ?_ | refine CW.condT rfl ?_ | refine CW.condF rfl ?_ | (refine hK _ _ ?_; clear hK K))
    first | refine WL.step rfl ?_ | refine WL.gstep rfl rfl rfl rfl ?_
    refine OpW.loadAgg (uc (sh N 32)).toList rfl hb3 rfl rfl ?_
    repeat (first | refine WL.nil ?_ | refine WL.auto (h := ?_) | refine WL.gskip rfl rfl rfl rfl ?_ | refine WL.gauto (h := ?_) | (refine CW.seq ?_; intro K hK) | refine CW.block ?_ | refine CW.region ?_ | refine CW.skip ?_ | refine CW.exit ?_ | refine CW.ret ?_ | (refine thn_ret (K := K) ?_; clear hK K) | refine thn_ret ?_ | refine blk_ret ?_ | (refine thn_exit (K := K) ?_; clear hK K) | refine thn_exit ?_ | refine blk_here ?_ | refine blk_past rfl ?_ | refine thn_norm ?_ | refine blk_norm ?_ | refine CW.condT rfl ?_ | refine CW.condF rfl ?_ | (refine hK _ _ ?_; clear hK K))
    refine WL.step0 ?_
    refine OpW.storeAll (d := uc (sh N 32)) rfl rfl rfl hb2 rfl rfl (fun w5 p5 hb => ?_)
    repeat (first | refine WL.nil ?_ | refine WL.auto (h := ?_) | refine WL.gskip rfl rfl rfl rfl ?_ | refine WL.gauto (h := ?_) | (refine CW.seq ?_; intro K hK) | refine CW.block ?_ | refine CW.region ?_ | refine CW.skip ?_ | refine CW.exit ?_ | refine CW.ret ?_ | (refine thn_ret (K := K) ?_; clear hK K) | refine thn_ret ?_ | refine blk_ret ?_ | (refine thn_exit (K := K) ?_; clear hK K) | refine thn_exit ?_ | refine blk_here ?_ | refine blk_past rfl ?_ | refine thn_norm ?_ | refine blk_norm ?_ | refine CW.condT rfl ?_ | refine CW.condF rfl ?_ | (refine hK _ _ ?_; clear hK K))
    exact outC1 Tryd.results33 rfl hb ⟨uv_of fun i hi => sh_last N i hi, g3.chgNew p5.chg (fun i hi e => by omega)⟩ (Or.inr rfl)
end B
end Go.Proofs.YtbcmmamipjbfpaaDoor
