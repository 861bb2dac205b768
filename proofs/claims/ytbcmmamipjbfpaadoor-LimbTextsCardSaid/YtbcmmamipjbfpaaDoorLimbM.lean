/- strconv.FormatUint at base 10. Conditions: a whole number of 64 bits; the library's table of powers of ten as the text lays it. -/
import Derived.Test.YtbcmmamipjbfpaaDoorLimbL
import Derived.Lib.ItoaLen
namespace Go.Proofs.YtbcmmamipjbfpaaDoor
namespace B
set_option linter.unusedVariables false
set_option linter.unusedSimpArgs false
set_option maxRecDepth 4000

/-- The table of powers of ten. -/
def Tab (w : World) : Prop := Lib.TabIs Tryd.prog w "internal/strconv.uint64pow10" .u64 Lib.pow10Tab
theorem Tab.chg {S : Nat → Prop} {w w' : World} (h : Tab w) (g : Grow w w') : Tab w' := by
  unfold Tab Lib.TabIs World.var? at *
  cases hg : Tryd.prog.globalNamed "internal/strconv.uint64pow10" with
  | none => simp [hg] at h
  | some k =>
    simp only [hg, Option.bind_some] at h ⊢
    have hlt : k < w.heap.size := by
      rcases Nat.lt_or_ge k w.heap.size with h' | h'
      · exact h'
      · rw [Array.getElem?_eq_none h'] at h; simp at h
    rw [g.block k hlt (fun hf => hf)]
    exact h
theorem Tab.grow {w w' : World} (h : Tab w) (g : Grow w w') : Tab w' := Tab.chg (S := No) h g
section
variable {P : Program} {e : Env} {w : World} {K : Value → World → Prop} {ty : TypeId} {t E n : Nat} {k kk : IntKind} {x y : Operand}
/-- a[:h] of an array. -/
theorem OpW.sliceArr {b : Nat} {j : Int} (h : Nat) [ht : ArrT P t n E k] (hx : ev e x = .pointer (some ⟨b, 0, none⟩)) (hy : ev e y = .int kk j) (hj : j = (h : Int)) (hh : h ≤ n) (hk : K (.slice (some ⟨b, 0, none⟩) h n) w) : OpW P (.slice t x none (some y) none) ty e w K := by
  refine OpW.of_sem (s := Instr.sliceAt t (ev e x) none (some (ev e y)) none) rfl (v := .slice (some ⟨b, 0, none⟩) h n) (w' := w) ?_ hk
  rw [hx, hy, hj]
  have hb : (Instr.sliceBounds false n n none (some (Value.int kk (h : Int))) none).run P w = .ok (0, h, n) w := by
    simp [Instr.sliceBounds, Sem.run_bind, run_bound hh, Result.andThen]
  simp only [Instr.sliceAt, Sem.run_bind, run_under ht.u, Result.andThen_ok, Instr.sureAddr, pure_bind, Sem.run_pure, hb, ht.s, Nat.zero_mul, Nat.sub_zero]
  have : (if n = 0 then (⟨b, 0, none⟩ : Addr) else Addr.add ⟨b, 0, none⟩ 0) = ⟨b, 0, none⟩ := by
    rw [add_at]; split <;> rfl
  rw [this]
end
theorem Format47 (b u : Nat) (h64 : u < m64) (w : World) (hb : Blk w b Lib.zeros24 61) : Ret Tryd.prog 47 #[.slice (some ⟨b, 0, none⟩) (Lib.nDigits u) 24, .int .u64 (u : Nat)] w fun v w' => v = .tuple #[] ∧ Chg (· = b) w w' ∧ Sl w' (some ⟨b, 0, none⟩) (bvs (Lib.decDigits u)) := by
  unfold m64 at h64
  have h20 := Lib.nDigits_le20 u h64
  have hH : Sort.Holds (fun (x : UInt8) => Value.int .u8 (x.toNat : Int)) w b 0 (Array.replicate (Lib.nDigits u) 0) := fun j hj => by
    have hj' : j < Lib.nDigits u := by simpa using hj
    refine ⟨?_, hb.free _ _⟩
    rw [Nat.zero_add, hb.cell (Lib.zeros24_at j (by omega)), getElem!_pos _ j hj]
    simp
  unfold Ret
  have := Any.internal_strconv_formatBase10 Tryd.lays285 b 0 24 u (Array.replicate (Lib.nDigits u) 0) w hH (by rw [Array.size_replicate]; exact Lib.lt_pow_nDigits u) h64 (by rw [Array.size_replicate]; omega)
  rw [Array.size_replicate] at this
  refine this.mono ?_
  rintro e w' ⟨h1, m, v', dk, rfl, hF⟩
  refine ⟨_, h1, rfl, ⟨rfl, rfl, rfl, by simp [World.drewN], fun i hi hn => ?_⟩, fun i v hi => ?_⟩
  · have : ¬ b = i := fun h => hn h.symm
    simp [World.drewN, Sort.putRow, Sort.mapBlock, Array.getElem?_modify, this]
  · refine ⟨_, rfl, rfl, ?_⟩
    rw [bvs_get] at hi
    cases hq : (Lib.decDigits u)[i]? with
    | none => rw [hq] at hi; cases hi
    | some c =>
      rw [hq] at hi
      simp only [Option.map_some, Option.some.injEq] at hi
      obtain ⟨hl, hv⟩ := List.getElem?_eq_some_iff.1 hq
      have hl' : i < Lib.nDigits u := by rw [Lib.decDigits_length] at hl; exact hl
      rw [World.cell?_drewN, Sort.cell?_putRow _ w b 0 _ dk hH (by rw [hF.size, Array.size_replicate]) i (by rw [hF.size]; exact hl'), ← hi, ← hv, Lib.row_is_numeral hF i hl]
      rfl
attribute [local irreducible] OpW WL CW Ret Sl Blk thn blk outOf
set_option linter.unusedVariables false
set_option linter.unusedSimpArgs false
theorem Format43 (u : Nat) (h64 : u < m64) (w : World) (ht : Tab w) : Ret Tryd.prog 43 #[.int .u64 (u : Nat), .int .i64 10] w fun v w' => v = .string (bstr (Lib.decDigits u)) ∧ Grow w w' := by
  refine Ret.enter (fn := Tryd.f43) (N := 32) Tryd.func43 rfl Tryd.ntmps43 rfl ?_
  repeat (first | refine WL.nil ?_ | refine WL.auto (h := ?_) | refine WL.gskip rfl rfl rfl rfl ?_ | refine WL.gauto (h := ?_) | (refine CW.seq ?_; intro K hK) | refine CW.block ?_ | refine CW.region ?_ | refine CW.skip ?_ | refine CW.exit ?_ | refine CW.ret ?_ | (refine thn_ret (K := K) ?_; clear hK K) | refine thn_ret ?_ | refine blk_ret ?_ | (refine thn_exit (K := K) ?_; clear hK K) | refine thn_exit ?_ | refine blk_here ?_ | refine blk_past rfl ?_ | refine thn_norm ?_ | refine blk_norm ?_ | refine CW.condT rfl ?_ | refine CW.condF rfl ?_ | (refine hK _ _ ?_; clear hK K))
  refine CW.condP rfl (fun h1 => ?_) (fun h1 => ?_)
  · repeat (first | refine WL.nil ?_ | refine WL.auto (h := ?_) | refine WL.gskip rfl rfl rfl rfl ?_ | refine WL.gauto (h := ?_) | (refine CW.seq ?_; intro K hK) | refine CW.block ?_ | refine CW.region ?_ | refine CW.skip ?_ | refine CW.exit ?_ | refine CW.ret ?_ | (refine thn_ret (K := K) ?_; clear hK K) | refine thn_ret ?_ | refine blk_ret ?_ | (refine thn_exit (K := K) ?_; clear hK K) | refine thn_exit ?_ | refine blk_here ?_ | refine blk_past rfl ?_ | refine thn_norm ?_ | refine blk_norm ?_ | refine CW.condT rfl ?_ | refine CW.condF rfl ?_ | (refine hK _ _ ?_; clear hK K))
    first | refine WL.step rfl ?_ | refine WL.gstep rfl rfl rfl rfl ?_
    refine OpW.call ((Small45 u (by omega) w).mono ?_) rfl
    rintro v w1 ⟨rfl, rfl⟩
    repeat (first | refine WL.nil ?_ | refine WL.auto (h := ?_) | refine WL.gskip rfl rfl rfl rfl ?_ | refine WL.gauto (h := ?_) | (refine CW.seq ?_; intro K hK) | refine CW.block ?_ | refine CW.region ?_ | refine CW.skip ?_ | refine CW.exit ?_ | refine CW.ret ?_ | (refine thn_ret (K := K) ?_; clear hK K) | refine thn_ret ?_ | refine blk_ret ?_ | (refine thn_exit (K := K) ?_; clear hK K) | refine thn_exit ?_ | refine blk_here ?_ | refine blk_past rfl ?_ | refine thn_norm ?_ | refine blk_norm ?_ | refine CW.condT rfl ?_ | refine CW.condF rfl ?_ | (refine hK _ _ ?_; clear hK K))
    exact out1 (v := .string (bstr (Lib.decDigits u))) Tryd.results43 rfl ⟨rfl, Chg.refl _ _⟩ (Or.inr rfl)
  · have h20 := Lib.nDigits_le20 u h64
    repeat (first | refine WL.nil ?_ | refine WL.auto (h := ?_) | refine WL.gskip rfl rfl rfl rfl ?_ | refine WL.gauto (h := ?_) | (refine CW.seq ?_; intro K hK) | refine CW.block ?_ | refine CW.region ?_ | refine CW.skip ?_ | refine CW.exit ?_ | refine CW.ret ?_ | (refine thn_ret (K := K) ?_; clear hK K) | refine thn_ret ?_ | refine blk_ret ?_ | (refine thn_exit (K := K) ?_; clear hK K) | refine thn_exit ?_ | refine blk_here ?_ | refine blk_past rfl ?_ | refine thn_norm ?_ | refine blk_norm ?_ | refine CW.condT rfl ?_ | refine CW.condF rfl ?_ | (refine hK _ _ ?_; clear hK K))
    first | refine WL.step rfl ?_ | refine WL.gstep rfl rfl rfl rfl ?_
    refine OpW.alloc (fun b w1 n1 => ?_)
    have hb : Blk w1 b Lib.zeros24 61 := n1.blk
    repeat (first | refine WL.nil ?_ | refine WL.auto (h := ?_) | refine WL.gskip rfl rfl rfl rfl ?_ | refine WL.gauto (h := ?_) | (refine CW.seq ?_; intro K hK) | refine CW.block ?_ | refine CW.region ?_ | refine CW.skip ?_ | refine CW.exit ?_ | refine CW.ret ?_ | (refine thn_ret (K := K) ?_; clear hK K) | refine thn_ret ?_ | refine blk_ret ?_ | (refine thn_exit (K := K) ?_; clear hK K) | refine thn_exit ?_ | refine blk_here ?_ | refine blk_past rfl ?_ | refine thn_norm ?_ | refine blk_norm ?_ | refine CW.condT rfl ?_ | refine CW.condF rfl ?_ | (refine hK _ _ ?_; clear hK K))
    first | refine WL.step rfl ?_ | refine WL.gstep rfl rfl rfl rfl ?_
    refine OpW.call ((Digits46 u (by omega) h64 w1 (ht.grow n1.grow)).mono ?_) rfl
    rintro v w2 ⟨rfl, rfl⟩
    repeat (first | refine WL.nil ?_ | refine WL.auto (h := ?_) | refine WL.gskip rfl rfl rfl rfl ?_ | refine WL.gauto (h := ?_) | (refine CW.seq ?_; intro K hK) | refine CW.block ?_ | refine CW.region ?_ | refine CW.skip ?_ | refine CW.exit ?_ | refine CW.ret ?_ | (refine thn_ret (K := K) ?_; clear hK K) | refine thn_ret ?_ | refine blk_ret ?_ | (refine thn_exit (K := K) ?_; clear hK K) | refine thn_exit ?_ | refine blk_here ?_ | refine blk_past rfl ?_ | refine thn_norm ?_ | refine blk_norm ?_ | refine CW.condT rfl ?_ | refine CW.condF rfl ?_ | (refine hK _ _ ?_; clear hK K))
    first | refine WL.step rfl ?_ | refine WL.gstep rfl rfl rfl rfl ?_
    refine OpW.sliceArr (Lib.nDigits u) rfl rfl rfl (by omega) ?_
    repeat (first | refine WL.nil ?_ | refine WL.auto (h := ?_) | refine WL.gskip rfl rfl rfl rfl ?_ | refine WL.gauto (h := ?_) | (refine CW.seq ?_; intro K hK) | refine CW.block ?_ | refine CW.region ?_ | refine CW.skip ?_ | refine CW.exit ?_ | refine CW.ret ?_ | (refine thn_ret (K := K) ?_; clear hK K) | refine thn_ret ?_ | refine blk_ret ?_ | (refine thn_exit (K := K) ?_; clear hK K) | refine thn_exit ?_ | refine blk_here ?_ | refine blk_past rfl ?_ | refine thn_norm ?_ | refine blk_norm ?_ | refine CW.condT rfl ?_ | refine CW.condF rfl ?_ | (refine hK _ _ ?_; clear hK K))
    first | refine WL.step rfl ?_ | refine WL.gstep rfl rfl rfl rfl ?_
    refine OpW.call ((Format47 b u h64 w2 hb).mono ?_) rfl
    rintro v w3 ⟨rfl, c3, hs⟩
    have g3 := n1.grow.chgNew c3 (fun i hi e => by have := n1.fresh; omega)
    repeat (first | refine WL.nil ?_ | refine WL.auto (h := ?_) | refine WL.gskip rfl rfl rfl rfl ?_ | refine WL.gauto (h := ?_) | (refine CW.seq ?_; intro K hK) | refine CW.block ?_ | refine CW.region ?_ | refine CW.skip ?_ | refine CW.exit ?_ | refine CW.ret ?_ | (refine thn_ret (K := K) ?_; clear hK K) | refine thn_ret ?_ | refine blk_ret ?_ | (refine thn_exit (K := K) ?_; clear hK K) | refine thn_exit ?_ | refine blk_here ?_ | refine blk_past rfl ?_ | refine thn_norm ?_ | refine blk_norm ?_ | refine CW.condT rfl ?_ | refine CW.condF rfl ?_ | (refine hK _ _ ?_; clear hK K))
    first | refine WL.step rfl ?_ | refine WL.gstep rfl rfl rfl rfl ?_
    refine OpW.sliceArr (Lib.nDigits u) rfl rfl rfl (by omega) ?_
    repeat (first | refine WL.nil ?_ | refine WL.auto (h := ?_) | refine WL.gskip rfl rfl rfl rfl ?_ | refine WL.gauto (h := ?_) | (refine CW.seq ?_; intro K hK) | refine CW.block ?_ | refine CW.region ?_ | refine CW.skip ?_ | refine CW.exit ?_ | refine CW.ret ?_ | (refine thn_ret (K := K) ?_; clear hK K) | refine thn_ret ?_ | refine blk_ret ?_ | (refine thn_exit (K := K) ?_; clear hK K) | refine thn_exit ?_ | refine blk_here ?_ | refine blk_past rfl ?_ | refine thn_norm ?_ | refine blk_norm ?_ | refine CW.condT rfl ?_ | refine CW.condF rfl ?_ | (refine hK _ _ ?_; clear hK K))
    first | refine WL.step rfl ?_ | refine WL.gstep rfl rfl rfl rfl ?_
    refine OpW.toStr rfl hs (Lib.decDigits_length u).symm ?_
    repeat (first | refine WL.nil ?_ | refine WL.auto (h := ?_) | refine WL.gskip rfl rfl rfl rfl ?_ | refine WL.gauto (h := ?_) | (refine CW.seq ?_; intro K hK) | refine CW.block ?_ | refine CW.region ?_ | refine CW.skip ?_ | refine CW.exit ?_ | refine CW.ret ?_ | (refine thn_ret (K := K) ?_; clear hK K) | refine thn_ret ?_ | refine blk_ret ?_ | (refine thn_exit (K := K) ?_; clear hK K) | refine thn_exit ?_ | refine blk_here ?_ | refine blk_past rfl ?_ | refine thn_norm ?_ | refine blk_norm ?_ | refine CW.condT rfl ?_ | refine CW.condF rfl ?_ | (refine hK _ _ ?_; clear hK K))
    exact out1 (v := .string (bstr (Lib.decDigits u))) Tryd.results43 rfl ⟨rfl, g3⟩ (Or.inr rfl)
theorem Format40 (u : Nat) (h64 : u < m64) (w : World) (ht : Tab w) : Ret Tryd.prog 40 #[.int .u64 (u : Nat), .int .i64 10] w fun v w' => v = .string (bstr (Lib.decDigits u)) ∧ Grow w w' := by
  refine Ret.enter (fn := Tryd.f40) (N := 8) Tryd.func40 rfl Tryd.ntmps40 rfl ?_
  repeat (first | refine WL.nil ?_ | refine WL.auto (h := ?_) | refine WL.gskip rfl rfl rfl rfl ?_ | refine WL.gauto (h := ?_) | (refine CW.seq ?_; intro K hK) | refine CW.block ?_ | refine CW.region ?_ | refine CW.skip ?_ | refine CW.exit ?_ | refine CW.ret ?_ | (refine thn_ret (K := K) ?_; clear hK K) | refine thn_ret ?_ | refine blk_ret ?_ | (refine thn_exit (K := K) ?_; clear hK K) | refine thn_exit ?_ | refine blk_here ?_ | refine blk_past rfl ?_ | refine thn_norm ?_ | refine blk_norm ?_ | refine CW.condT rfl ?_ | refine CW.condF rfl ?_ | (refine hK _ _ ?_; clear hK K))
  first | refine WL.step rfl ?_ | refine WL.gstep rfl rfl rfl rfl ?_
  refine OpW.call ((Format43 u h64 w ht).mono ?_) rfl
  rintro v w1 ⟨rfl, g1⟩
  repeat (first | refine WL.nil ?_ | refine WL.auto (h := ?_) | refine WL.gskip rfl rfl rfl rfl ?_ | refine WL.gauto (h := ?_) | (refine CW.seq ?_; intro K hK) | refine CW.block ?_ | refine CW.region ?_ | refine CW.skip ?_ | refine CW.exit ?_ | refine CW.ret ?_ | (refine thn_ret (K := K) ?_; clear hK K) | refine thn_ret ?_ | refine blk_ret ?_ | (refine thn_exit (K := K) ?_; clear hK K) | refine thn_exit ?_ | refine blk_here ?_ | refine blk_past rfl ?_ | refine thn_norm ?_ | refine blk_norm ?_ | refine CW.condT rfl ?_ | refine CW.condF rfl ?_ | (refine hK _ _ ?_; clear hK K))
  exact out1 (v := .string (bstr (Lib.decDigits u))) Tryd.results40 rfl ⟨rfl, g1⟩ (Or.inr rfl)
end B
end Go.Proofs.YtbcmmamipjbfpaaDoor
