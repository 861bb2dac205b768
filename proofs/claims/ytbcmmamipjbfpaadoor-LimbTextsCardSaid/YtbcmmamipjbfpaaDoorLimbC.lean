/- limb: Of, Zero, Cmp, Add, Sub: of whole numbers below 2^256. -/
import Derived.Test.YtbcmmamipjbfpaaDoorLimbB
import Derived.Laws.CopyRow
namespace Go.Proofs.YtbcmmamipjbfpaaDoor
namespace B
set_option linter.unusedVariables false
set_option linter.unusedSimpArgs false
set_option maxRecDepth 4000

section
variable {P : Program} {N : Nat} {Q : Post} {e : Env} {w w0 : World} {ty : TypeId} {K : Value → World → Prop}
theorem setRow_blk {b : Nat} {c c' : Array Value} {E : TypeId} (hb : Blk w b c E) : Blk (w.setRow b c') b c' E ∧ Put w (w.setRow b c') b := by
  unfold Blk at *
  refine ⟨by simp [World.setRow, Array.getElem?_modify, hb], ⟨rfl, rfl, rfl, by simp [World.setRow], fun k hk hn => ?_⟩, by simp [World.setRow]⟩
  have : ¬ b = k := fun h => hn h.symm
  simp [World.setRow, Array.getElem?_modify, this]
/-- An aggregate stored into a block. -/
theorem OpW.storeAgg {t : TypeId} {x y : Operand} {b o n : Nat} {c c' d : Array Value} {E : TypeId} [ht : SizeT P t n] (hx : ev e x = .pointer (some ⟨b, o, none⟩)) (hy : ev e y = .agg d) (hv : d.toList.all (·.oneCell') = true) (hb : Blk w b c E) (hd : d.size = n) (ho : o + n ≤ c.size) (hc : c' = (c.toList.take o ++ d.toList ++ c.toList.drop (o + d.toList.length)).toArray)
    (h : ∀ w', Put w w' b → Blk w' b c' E → K undef w') : OpW P (.store t x y) ty e w K := by
  subst hc
  obtain ⟨h1, h2⟩ := setRow_blk (c' := (c.toList.take o ++ d.toList ++ c.toList.drop (o + d.toList.length)).toArray) hb
  refine OpW.of_unit (s := Instr.storeAt t (ev e x) (ev e y)) rfl ?_ (h _ h2 h1)
  have hs := run_storeCells_at (P := P) b o E d.toList 0 c w hb (by rw [Array.length_toList]; omega) (fun v hv' => List.all_eq_true.1 hv v hv')
  rw [hx, hy]
  rw [Nat.add_zero] at hs
  simp only [Instr.storeAt, Instr.sureAddr, storeVar, Sem.run_bind, ht.h, Result.andThen, Value.cells, hd, hs]
  simp [Sem.run_bind, Result.andThen, hs, pure_bind, Sem.run_pure]
theorem OpW.storeAll {t : TypeId} {x y : Operand} {b n : Nat} {c d : Array Value} {E : TypeId} [ht : SizeT P t n] (hx : ev e x = .pointer (some ⟨b, 0, none⟩)) (hy : ev e y = .agg d) (hv : d.toList.all (·.oneCell') = true) (hb : Blk w b c E) (hd : d.size = n) (ho : c.size = n)
    (h : ∀ w', Put w w' b → Blk w' b d E → K undef w') : OpW P (.store t x y) ty e w K :=
  OpW.storeAgg hx hy hv hb hd (by omega) (by
    rw [List.take_zero, List.nil_append, List.drop_eq_nil_of_le (by simp; omega), List.append_nil, Array.toArray_toList]) h
end
theorem run_loadU {w : World} {b : Nat} {f : Nat → Nat} (hb : Blk w b (uc f) 24) : (loadVar 24 ⟨b, 0, none⟩).run Tryd.prog w = .ok (.agg (uc f)) w := by
  have hl : (loadCells ⟨b, 0, none⟩ 4).run Tryd.prog w = .ok (uc f) w := run_cells 4 (uc f).toList rfl fun i v hi => by
    rw [add_at]
    exact hb.cell (by simpa using hi)
  have ht : AggT Tryd.prog 24 4 := inferInstance
  simp [loadVar, Sem.run_bind, ht.h, ht.s, Result.andThen, hl]
section
variable {e : Env} {w : World} {fn : Func} {R : Value → World → Prop} {a u b : Nat} {f : Nat → Nat} {v : Value} {x : Exit}
theorem outC1 (hr : fn.results = #[.cell a 24]) (ha : e a = .pointer (some ⟨b, 0, none⟩)) (hb : Blk w b (uc f) 24) (h : R (.agg (uc f)) w) (hx : x = .normal ∨ x = .ret) : outOf Tryd.prog fn R x e w := by
  have hl := run_loadU hb
  rcases hx with rfl | rfl <;> exact fun tmps ht => ⟨.agg (uc f), by simp [results, hr, Sem.run_bind, asAddr, ht, ha, hl, Result.andThen], h⟩
theorem outC2 (hr : fn.results = #[.cell a 24, .tmp u]) (ha : e a = .pointer (some ⟨b, 0, none⟩)) (hb : Blk w b (uc f) 24) (hu : e u = v) (h : R (.tuple #[.agg (uc f), v]) w) (hx : x = .normal ∨ x = .ret) : outOf Tryd.prog fn R x e w := by
  have hl := run_loadU hb
  rcases hx with rfl | rfl <;> exact fun tmps ht => ⟨.tuple #[.agg (uc f), v], by simp [results, hr, Sem.run_bind, asAddr, ht, ha, hu, hl, Result.andThen], h⟩
end
attribute [local irreducible] OpW WL CW Ret Sl Blk thn blk outOf
set_option linter.unusedVariables false
set_option linter.unusedSimpArgs false
theorem uc_congr {f g : Nat → Nat} (h : ∀ i, i < 4 → f i = g i) : uc f = uc g := by
  unfold uc
  rw [h 0 (by decide), h 1 (by decide), h 2 (by decide), h 3 (by decide)]
theorem uv_of {f : Nat → Nat} {N : Nat} (h : ∀ i, i < 4 → f i = lb N i) : Value.agg (uc f) = uv N := by rw [uc_congr h]; rfl
theorem lb_small {n : Nat} (h : n < m64) (i : Nat) : lb n i = if i = 0 then n else 0 := by
  unfold lb
  cases i with
  | zero => rw [Nat.pow_zero, Nat.div_one, if_pos rfl]; exact Nat.mod_eq_of_lt h
  | succ i =>
    rw [if_neg (by omega), Nat.div_eq_of_lt (Nat.lt_of_lt_of_le h (by rw [Nat.pow_succ]; exact Nat.le_mul_of_pos_left _ (Nat.pow_pos (by decide))))]
    rfl
theorem uv_zero : Value.agg (uc fun _ => 0) = uv 0 := uv_of fun i _ => by unfold lb; simp
theorem Of28 (n : Nat) (hn : n < m64) (w : World) : Ret Tryd.prog 28 #[.int .u64 (n : Nat)] w fun v w' => v = uv n ∧ Grow w w' := by
  refine Ret.enter (fn := Tryd.f28) (N := 5) Tryd.func28 rfl Tryd.ntmps28 rfl ?_
  repeat (first | refine WL.nil ?_ | refine WL.auto (h := ?_) | refine WL.gskip rfl rfl rfl rfl ?_ | refine WL.gauto (h := ?_) | (refine CW.seq ?_; intro K hK) | refine CW.block ?_ | refine CW.region ?_ | refine CW.skip ?_ | refine CW.exit ?_ | refine CW.ret ?_ | (refine thn_ret (K := K) ?_; clear hK K) | refine thn_ret ?_ | refine blk_ret ?_ | (refine thn_exit (K := K) ?_; clear hK K) | refine thn_exit ?_ | refine blk_here ?_ | refine blk_past rfl ?_ | refine thn_norm ?_ | refine blk_norm ?_ | refine CW.condT rfl ?_ | refine CW.condF rfl ?_ | (refine hK _ _ ?_; clear hK K))
  first | refine WL.step rfl ?_ | refine WL.gstep rfl rfl rfl rfl ?_
  refine OpW.alloc (fun b1 w1 n1 => ?_)
  repeat (first | refine WL.nil ?_ | refine WL.auto (h := ?_) | refine WL.gskip rfl rfl rfl rfl ?_ | refine WL.gauto (h := ?_) | (refine CW.seq ?_; intro K hK) | refine CW.block ?_ | refine CW.region ?_ | refine CW.skip ?_ | refine CW.exit ?_ | refine CW.ret ?_ | (refine thn_ret (K := K) ?_; clear hK K) | refine thn_ret ?_ | refine blk_ret ?_ | (refine thn_exit (K := K) ?_; clear hK K) | refine thn_exit ?_ | refine blk_here ?_ | refine blk_past rfl ?_ | refine thn_norm ?_ | refine blk_norm ?_ | refine CW.condT rfl ?_ | refine CW.condF rfl ?_ | (refine hK _ _ ?_; clear hK K))
  first | refine WL.step rfl ?_ | refine WL.gstep rfl rfl rfl rfl ?_
  refine OpW.buildA (cells := uc fun i => if i = 0 then n else 0) rfl rfl ?_
  repeat (first | refine WL.nil ?_ | refine WL.auto (h := ?_) | refine WL.gskip rfl rfl rfl rfl ?_ | refine WL.gauto (h := ?_) | (refine CW.seq ?_; intro K hK) | refine CW.block ?_ | refine CW.region ?_ | refine CW.skip ?_ | refine CW.exit ?_ | refine CW.ret ?_ | (refine thn_ret (K := K) ?_; clear hK K) | refine thn_ret ?_ | refine blk_ret ?_ | (refine thn_exit (K := K) ?_; clear hK K) | refine thn_exit ?_ | refine blk_here ?_ | refine blk_past rfl ?_ | refine thn_norm ?_ | refine blk_norm ?_ | refine CW.condT rfl ?_ | refine CW.condF rfl ?_ | (refine hK _ _ ?_; clear hK K))
  refine WL.step0 ?_
  refine OpW.storeAll (d := uc fun i => if i = 0 then n else 0) rfl rfl rfl n1.blk rfl rfl (fun w2 p2 hb => ?_)
  have g2 : Grow w w2 := n1.grow.chgNew p2.chg (fun i hi h => by subst h; have := n1.fresh; omega)
  repeat (first | refine WL.nil ?_ | refine WL.auto (h := ?_) | refine WL.gskip rfl rfl rfl rfl ?_ | refine WL.gauto (h := ?_) | (refine CW.seq ?_; intro K hK) | refine CW.block ?_ | refine CW.region ?_ | refine CW.skip ?_ | refine CW.exit ?_ | refine CW.ret ?_ | (refine thn_ret (K := K) ?_; clear hK K) | refine thn_ret ?_ | refine blk_ret ?_ | (refine thn_exit (K := K) ?_; clear hK K) | refine thn_exit ?_ | refine blk_here ?_ | refine blk_past rfl ?_ | refine thn_norm ?_ | refine blk_norm ?_ | refine CW.condT rfl ?_ | refine CW.condF rfl ?_ | (refine hK _ _ ?_; clear hK K))
  exact outC1 Tryd.results28 rfl hb ⟨uv_of fun i _ => (lb_small hn i).symm, g2⟩ (Or.inr rfl)
theorem Zero23 (N : Nat) (hN : N < m256) (w : World) : Ret Tryd.prog 23 #[uv N] w fun v w' => v = .bool (decide (N = 0)) ∧ Grow w w' := by
  refine Ret.enter (fn := Tryd.f23) (N := 6) Tryd.func23 rfl Tryd.ntmps23 rfl ?_
  repeat (first | refine WL.nil ?_ | refine WL.auto (h := ?_) | refine WL.gskip rfl rfl rfl rfl ?_ | refine WL.gauto (h := ?_) | (refine CW.seq ?_; intro K hK) | refine CW.block ?_ | refine CW.region ?_ | refine CW.skip ?_ | refine CW.exit ?_ | refine CW.ret ?_ | (refine thn_ret (K := K) ?_; clear hK K) | refine thn_ret ?_ | refine blk_ret ?_ | (refine thn_exit (K := K) ?_; clear hK K) | refine thn_exit ?_ | refine blk_here ?_ | refine blk_past rfl ?_ | refine thn_norm ?_ | refine blk_norm ?_ | refine CW.condT rfl ?_ | refine CW.condF rfl ?_ | (refine hK _ _ ?_; clear hK K))
  first | refine WL.step rfl ?_ | refine WL.gstep rfl rfl rfl rfl ?_
  refine OpW.box (v := uv N) rfl ?_
  intro b1 w1 n1
  have hb : Blk w1 b1 (uc (lb N)) 24 := n1.blk
  repeat (first | refine WL.nil ?_ | refine WL.auto (h := ?_) | refine WL.gskip rfl rfl rfl rfl ?_ | refine WL.gauto (h := ?_) | (refine CW.seq ?_; intro K hK) | refine CW.block ?_ | refine CW.region ?_ | refine CW.skip ?_ | refine CW.exit ?_ | refine CW.ret ?_ | (refine thn_ret (K := K) ?_; clear hK K) | refine thn_ret ?_ | refine blk_ret ?_ | (refine thn_exit (K := K) ?_; clear hK K) | refine thn_exit ?_ | refine blk_here ?_ | refine blk_past rfl ?_ | refine thn_norm ?_ | refine blk_norm ?_ | refine CW.condT rfl ?_ | refine CW.condF rfl ?_ | (refine hK _ _ ?_; clear hK K))
  first | refine WL.step rfl ?_ | refine WL.gstep rfl rfl rfl rfl ?_
  refine OpW.loadAgg (uc (lb N)).toList rfl hb rfl rfl ?_
  repeat (first | refine WL.nil ?_ | refine WL.auto (h := ?_) | refine WL.gskip rfl rfl rfl rfl ?_ | refine WL.gauto (h := ?_) | (refine CW.seq ?_; intro K hK) | refine CW.block ?_ | refine CW.region ?_ | refine CW.skip ?_ | refine CW.exit ?_ | refine CW.ret ?_ | (refine thn_ret (K := K) ?_; clear hK K) | refine thn_ret ?_ | refine blk_ret ?_ | (refine thn_exit (K := K) ?_; clear hK K) | refine thn_exit ?_ | refine blk_here ?_ | refine blk_past rfl ?_ | refine thn_norm ?_ | refine blk_norm ?_ | refine CW.condT rfl ?_ | refine CW.condF rfl ?_ | (refine hK _ _ ?_; clear hK K))
  first | refine WL.step rfl ?_ | refine WL.gstep rfl rfl rfl rfl ?_
  refine OpW.buildA (cells := uc fun _ => 0) rfl rfl ?_
  repeat (first | refine WL.nil ?_ | refine WL.auto (h := ?_) | refine WL.gskip rfl rfl rfl rfl ?_ | refine WL.gauto (h := ?_) | (refine CW.seq ?_; intro K hK) | refine CW.block ?_ | refine CW.region ?_ | refine CW.skip ?_ | refine CW.exit ?_ | refine CW.ret ?_ | (refine thn_ret (K := K) ?_; clear hK K) | refine thn_ret ?_ | refine blk_ret ?_ | (refine thn_exit (K := K) ?_; clear hK K) | refine thn_exit ?_ | refine blk_here ?_ | refine blk_past rfl ?_ | refine thn_norm ?_ | refine blk_norm ?_ | refine CW.condT rfl ?_ | refine CW.condF rfl ?_ | (refine hK _ _ ?_; clear hK K))
  first | refine WL.step rfl ?_ | refine WL.gstep rfl rfl rfl rfl ?_
  refine OpW.eqlU (N := N) (M := 0) rfl uv_zero hN (by decide) ?_
  repeat (first | refine WL.nil ?_ | refine WL.auto (h := ?_) | refine WL.gskip rfl rfl rfl rfl ?_ | refine WL.gauto (h := ?_) | (refine CW.seq ?_; intro K hK) | refine CW.block ?_ | refine CW.region ?_ | refine CW.skip ?_ | refine CW.exit ?_ | refine CW.ret ?_ | (refine thn_ret (K := K) ?_; clear hK K) | refine thn_ret ?_ | refine blk_ret ?_ | (refine thn_exit (K := K) ?_; clear hK K) | refine thn_exit ?_ | refine blk_here ?_ | refine blk_past rfl ?_ | refine thn_norm ?_ | refine blk_norm ?_ | refine CW.condT rfl ?_ | refine CW.condF rfl ?_ | (refine hK _ _ ?_; clear hK K))
  exact out1 Tryd.results23 rfl ⟨rfl, n1.grow⟩ (Or.inr rfl)
end B
end Go.Proofs.YtbcmmamipjbfpaaDoor
