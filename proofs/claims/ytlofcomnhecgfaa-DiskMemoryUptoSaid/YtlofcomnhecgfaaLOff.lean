/- The walk of isthmuslaw06.DiskOff: it is true. Sizes are bounded. -/
import Derived.Test.YtlofcomnhecgfaaLScripts
namespace Go.Proofs.Ytlofcomnhecgfaa
namespace B
attribute [local irreducible] OpW WL CW Ret Sl Blk thn blk outOf
set_option linter.unusedVariables false
set_option linter.unusedSimpArgs false
set_option maxRecDepth 4000

theorem FilesIn.lt {w : World} {A : Option Addr} {xs : List (List UInt8 × List UInt8)} {Z : Nat → Prop} (h : FilesIn w A xs Z) : FilesIn w A xs (fun b => Z b ∧ b < w.heap.size) := by
  obtain ⟨cells, h1, h2, h3, h4⟩ := h
  refine ⟨cells, h1, fun hne a ha => ⟨h2 hne a ha, h1.lt hne ha⟩, h3, fun i x hx => ?_⟩
  obtain ⟨DA, c, k1, k2, k3, k4⟩ := h4 i x hx
  exact ⟨DA, c, k1, k2, fun hne a ha => ⟨k3 hne a ha, k2.lt hne ha⟩, k4⟩
theorem off_append {d : PD} (h : d.off = true) (s b : List UInt8) : d.append s b = (51, d) := by unfold PD.append; rw [begin_off h]; rfl
theorem off_sync {d : PD} (h : d.off = true) (s : List UInt8) : d.sync s = (51, d) := by unfold PD.sync; rw [begin_off h]; rfl
theorem off_truncate {d : PD} (h : d.off = true) (s : List UInt8) (n : Int) : d.truncate s n = (51, d) := by unfold PD.truncate; rw [begin_off h]; rfl
theorem off_read {d : PD} (h : d.off = true) (s : List UInt8) : d.read s = ([], 51) := by unfold PD.read; rw [if_pos h]
theorem off_arm {d : PD} (h : d.off = true) (n : Int) : d.arm n = d := by unfold PD.arm; rw [if_pos h]

theorem off15 (A : Option Addr) (cap : Nat) (xs : List (List UInt8 × List UInt8)) (Z : Nat → Prop) (v1 : Value) (ops : List Op6) (W : World) (hx : FilesIn W A xs Z) (ho : InStructs W v1 5 (IsOp6 W) ops) (hl : xs.length ≤ 1048576) (hs : ∀ x ∈ xs, x.1.length ≤ 1048576 ∧ x.2.length ≤ 1048576)
    (hol : ops.length ≤ 1048576) (hos : (ops.map fun o => o.name.length + o.b.length + o.keep.length + 1).sum ≤ 1048576) :
    Ret Try.prog 15 #[.slice A xs.length cap, v1] W fun v w' => v = .bool true ∧ Grow W w' := by
  have hs' : ∀ x ∈ xs, x.1.length ≤ 1099511627776 ∧ x.2.length ≤ 1099511627776 := fun x hx => by have := hs x hx; omega
  have hosz := op_sizes hos
  obtain ⟨OA, ocap, cs, rfl, hcap, hcm, hcl, hso, hoe⟩ := ho
  refine Ret.enter (fn := Try.f15) (N := 97) Try.func15 rfl Try.ntmps15 rfl ?_
  repeat (first | refine WL.nil ?_ | refine WL.auto (h := ?_) | refine WL.gskip rfl rfl rfl rfl ?_ | refine WL.gauto (h := ?_) | (refine CW.seq ?_; intro K hK) | refine CW.block ?_ | refine CW.region ?_ | refine CW.skip ?_ | refine CW.exit ?_ | refine CW.ret ?_ | (refine thn_ret (K := K) ?_; clear hK K) | refine thn_ret ?_ | refine blk_ret ?_ | (refine thn_exit (K := K) ?_; clear hK K) | refine thn_exit ?_ | refine blk_here ?_ | refine blk_past rfl ?_ | refine thn_norm ?_ | refine blk_norm ?_ | refine CW.condT rfl ?_ | refine CW.condF rfl ?_ | (refine hK _ _ ?_; clear hK K))
  first | refine WL.step rfl ?_ | refine WL.gstep rfl rfl rfl rfl ?_
  refine OpW.call ((loadOne (X := fun k => k < W.heap.size) (fun _ h => h) A cap xs Z hx (by omega) hs').mono ?_) rfl
  rintro v w1 ⟨g1, hnone, hsome⟩
  cases hg : loadGo [] xs with
  | none =>
    obtain rfl := hnone hg
    repeat (first | refine WL.nil ?_ | refine WL.auto (h := ?_) | refine WL.gskip rfl rfl rfl rfl ?_ | refine WL.gauto (h := ?_) | (refine CW.seq ?_; intro K hK) | refine CW.block ?_ | refine CW.region ?_ | refine CW.skip ?_ | refine CW.exit ?_ | refine CW.ret ?_ | (refine thn_ret (K := K) ?_; clear hK K) | refine thn_ret ?_ | refine blk_ret ?_ | (refine thn_exit (K := K) ?_; clear hK K) | refine thn_exit ?_ | refine blk_here ?_ | refine blk_past rfl ?_ | refine thn_norm ?_ | refine blk_norm ?_ | refine CW.condT rfl ?_ | refine CW.condF rfl ?_ | (refine hK _ _ ?_; clear hK K))
    first | refine WL.step rfl ?_ | refine WL.gstep rfl rfl rfl rfl ?_
    refine OpW.call ((fixed31 _).mono ?_) rfl
    rintro v w3 ⟨rfl, g3⟩
    repeat (first | refine WL.nil ?_ | refine WL.auto (h := ?_) | refine WL.gskip rfl rfl rfl rfl ?_ | refine WL.gskipU rfl rfl rfl rfl ?_ | refine WL.gauto (h := ?_) | (refine CW.seq ?_; intro K hK) | refine CW.block ?_ | refine CW.region ?_ | refine CW.skip ?_ | refine CW.exit ?_ | refine CW.ret ?_ | (refine thn_ret (K := K) ?_; clear hK K) | refine thn_ret ?_ | refine blk_ret ?_ | (refine thn_exit (K := K) ?_; clear hK K) | refine thn_exit ?_ | refine blk_here ?_ | refine blk_past rfl ?_ | refine thn_norm ?_ | refine blk_norm ?_ | refine CW.condT rfl ?_ | refine CW.condF rfl ?_ | (refine hK _ _ ?_; clear hK K))
    first | refine WL.step rfl ?_ | refine WL.gstep rfl rfl rfl rfl ?_
    refine OpW.call ((fixed31 _).mono ?_) rfl
    rintro v w4 ⟨rfl, g4⟩
    repeat (first | refine WL.nil ?_ | refine WL.auto (h := ?_) | refine WL.gskip rfl rfl rfl rfl ?_ | refine WL.gskipU rfl rfl rfl rfl ?_ | refine WL.gauto (h := ?_) | (refine CW.seq ?_; intro K hK) | refine CW.block ?_ | refine CW.region ?_ | refine CW.skip ?_ | refine CW.exit ?_ | refine CW.ret ?_ | (refine thn_ret (K := K) ?_; clear hK K) | refine thn_ret ?_ | refine blk_ret ?_ | (refine thn_exit (K := K) ?_; clear hK K) | refine thn_exit ?_ | refine blk_here ?_ | refine blk_past rfl ?_ | refine thn_norm ?_ | refine blk_norm ?_ | refine CW.condT rfl ?_ | refine CW.condF rfl ?_ | (refine hK _ _ ?_; clear hK K))
    exact out1 (v := .bool true) Try.results15 rfl ⟨rfl, g1.then (g3.then g4)⟩ (Or.inr rfl)
  | some l =>
    obtain ⟨db, rfl, h1⟩ := hsome l hg
    obtain ⟨rfl, hf⟩ := load_fit hg hs
    repeat (first | refine WL.nil ?_ | refine WL.auto (h := ?_) | refine WL.gskip rfl rfl rfl rfl ?_ | refine WL.gauto (h := ?_) | (refine CW.seq ?_; intro K hK) | refine CW.block ?_ | refine CW.region ?_ | refine CW.skip ?_ | refine CW.exit ?_ | refine CW.ret ?_ | (refine thn_ret (K := K) ?_; clear hK K) | refine thn_ret ?_ | refine blk_ret ?_ | (refine thn_exit (K := K) ?_; clear hK K) | refine thn_exit ?_ | refine blk_here ?_ | refine blk_past rfl ?_ | refine thn_norm ?_ | refine blk_norm ?_ | refine CW.condT rfl ?_ | refine CW.condF rfl ?_ | (refine hK _ _ ?_; clear hK K))
    first | refine WL.step rfl ?_ | refine WL.gstep rfl rfl rfl rfl ?_
    refine OpW.call ((fixed31 _).mono ?_) rfl
    rintro v w3 ⟨rfl, g3⟩
    have h3 := h1.grow g3
    have gW3 := g1.then g3
    repeat (first | refine WL.nil ?_ | refine WL.auto (h := ?_) | refine WL.gskip rfl rfl rfl rfl ?_ | refine WL.gskipU rfl rfl rfl rfl ?_ | refine WL.gauto (h := ?_) | (refine CW.seq ?_; intro K hK) | refine CW.block ?_ | refine CW.region ?_ | refine CW.skip ?_ | refine CW.exit ?_ | refine CW.ret ?_ | (refine thn_ret (K := K) ?_; clear hK K) | refine thn_ret ?_ | refine blk_ret ?_ | (refine thn_exit (K := K) ?_; clear hK K) | refine thn_exit ?_ | refine blk_here ?_ | refine blk_past rfl ?_ | refine thn_norm ?_ | refine blk_norm ?_ | refine CW.condT rfl ?_ | refine CW.condF rfl ?_ | (refine hK _ _ ?_; clear hK K))
    refine CW.loop (fun n' e w4 => ∃ (k : Nat) (d : PD), k ≤ ops.length ∧ n' = ops.length - k ∧ Fit d (1048576 + putSum ops k) ∧ One (fun k => k < W.heap.size) w4 db d ∧ Grow W w4 ∧ ∃ e0, e = upd (upd (upd (upd e0 5 (.pointer (some ⟨db, 0, none⟩))) 32 (.slice OA ops.length ocap)) 33 (.int .i64 ops.length)) 34 (.int .i64 k)) ops.length ?_ ?_
    · exact ⟨0, _, by omega, rfl, hf.le (by omega), h3, gW3, rep4 rfl rfl rfl rfl⟩
    clear h1 h3 hf gW3 g1 g3 hnone hsome hg
    rintro n' e w4 ⟨k, d, hk, rfl, hf, h4, gW, e0, rfl⟩ KJ hJ
    have hpk := putSum_le ops k
    repeat (first | refine WL.nil ?_ | refine WL.auto (h := ?_) | refine WL.gskip rfl rfl rfl rfl ?_ | refine WL.gauto (h := ?_) | (refine CW.seq ?_; intro K hK) | refine CW.block ?_ | refine CW.region ?_ | refine CW.skip ?_ | refine CW.exit ?_ | refine CW.ret ?_ | (refine thn_ret (K := K) ?_; clear hK K) | refine thn_ret ?_ | refine blk_ret ?_ | (refine thn_exit (K := K) ?_; clear hK K) | refine thn_exit ?_ | refine blk_here ?_ | refine blk_past rfl ?_ | refine thn_norm ?_ | refine blk_norm ?_ | refine CW.condT rfl ?_ | refine CW.condF rfl ?_ | (refine hK _ _ ?_; clear hK K))
    refine CW.condP rfl (fun h5 => ?_) (fun h5 => ?_)
    · have hkl : k < ops.length := by omega
      have hpk1 := putSum_le ops (k + 1)
      have hps := putSum_succ hkl
      obtain ⟨z1, z2, z3⟩ := hosz ops[k] (List.getElem_mem hkl)
      obtain ⟨BA, bcap, KA, kcap, e1, q1, q2, q3, q4, q5, q6, q7⟩ := hoe k ops[k] (List.getElem?_eq_getElem hkl)
      generalize ops[k] = o at *
      have hcs4 := hso.grow gW
      have hkb : k * 5 < cs.length := by omega
      repeat (first | refine WL.nil ?_ | refine WL.auto (h := ?_) | refine WL.gskip rfl rfl rfl rfl ?_ | refine WL.gauto (h := ?_) | (refine CW.seq ?_; intro K hK) | refine CW.block ?_ | refine CW.region ?_ | refine CW.skip ?_ | refine CW.exit ?_ | refine CW.ret ?_ | (refine thn_ret (K := K) ?_; clear hK K) | refine thn_ret ?_ | refine blk_ret ?_ | (refine thn_exit (K := K) ?_; clear hK K) | refine thn_exit ?_ | refine blk_here ?_ | refine blk_past rfl ?_ | refine thn_norm ?_ | refine blk_norm ?_ | refine CW.condT rfl ?_ | refine CW.condF rfl ?_ | (refine hK _ _ ?_; clear hK K))
      first | refine WL.step rfl ?_ | refine WL.gstep rfl rfl rfl rfl ?_
      refine OpW.indexAddr k rfl rfl rfl hkl (sl_ne hcs4 hkb) (sl_sp hcs4 hkb) ?_
      repeat (first | refine WL.nil ?_ | refine WL.auto (h := ?_) | refine WL.gskip rfl rfl rfl rfl ?_ | refine WL.gauto (h := ?_) | (refine CW.seq ?_; intro K hK) | refine CW.block ?_ | refine CW.region ?_ | refine CW.skip ?_ | refine CW.exit ?_ | refine CW.ret ?_ | (refine thn_ret (K := K) ?_; clear hK K) | refine thn_ret ?_ | refine blk_ret ?_ | (refine thn_exit (K := K) ?_; clear hK K) | refine thn_exit ?_ | refine blk_here ?_ | refine blk_past rfl ?_ | refine thn_norm ?_ | refine blk_norm ?_ | refine CW.condT rfl ?_ | refine CW.condF rfl ?_ | (refine hK _ _ ?_; clear hK K))
      first | refine WL.step rfl ?_ | refine WL.gstep rfl rfl rfl rfl ?_
      refine OpW.loadAggS _ rfl hcs4 e1 rfl (by decide) ?_
      repeat (first | refine WL.nil ?_ | refine WL.auto (h := ?_) | refine WL.gskip rfl rfl rfl rfl ?_ | refine WL.gauto (h := ?_) | (refine CW.seq ?_; intro K hK) | refine CW.block ?_ | refine CW.region ?_ | refine CW.skip ?_ | refine CW.exit ?_ | refine CW.ret ?_ | (refine thn_ret (K := K) ?_; clear hK K) | refine thn_ret ?_ | refine blk_ret ?_ | (refine thn_exit (K := K) ?_; clear hK K) | refine thn_exit ?_ | refine blk_here ?_ | refine blk_past rfl ?_ | refine thn_norm ?_ | refine blk_norm ?_ | refine CW.condT rfl ?_ | refine CW.condF rfl ?_ | (refine hK _ _ ?_; clear hK K))
      first | refine WL.step rfl ?_ | refine WL.gstep rfl rfl rfl rfl ?_
      refine OpW.alloc (fun b3 w5 n5 => ?_)
      repeat (first | refine WL.nil ?_ | refine WL.auto (h := ?_) | refine WL.gskip rfl rfl rfl rfl ?_ | refine WL.gauto (h := ?_) | (refine CW.seq ?_; intro K hK) | refine CW.block ?_ | refine CW.region ?_ | refine CW.skip ?_ | refine CW.exit ?_ | refine CW.ret ?_ | (refine thn_ret (K := K) ?_; clear hK K) | refine thn_ret ?_ | refine blk_ret ?_ | (refine thn_exit (K := K) ?_; clear hK K) | refine thn_exit ?_ | refine blk_here ?_ | refine blk_past rfl ?_ | refine thn_norm ?_ | refine blk_norm ?_ | refine CW.condT rfl ?_ | refine CW.condF rfl ?_ | (refine hK _ _ ?_; clear hK K))
      refine WL.step0 ?_
      refine OpW.storeAll rfl rfl rfl n5.blk rfl rfl (fun w6 p6 hb => ?_)
      have g6 : Grow w4 w6 := n5.grow.chgNew p6.chg (fun i hi h => by subst h; have := n5.fresh; omega)
      have hb3 := n5.fresh
      have h6 := h4.grow g6
      have gW6 := gW.then g6
      repeat (first | refine WL.nil ?_ | refine WL.auto (h := ?_) | refine WL.gskip rfl rfl rfl rfl ?_ | refine WL.gauto (h := ?_) | (refine CW.seq ?_; intro K hK) | refine CW.block ?_ | refine CW.region ?_ | refine CW.skip ?_ | refine CW.exit ?_ | refine CW.ret ?_ | (refine thn_ret (K := K) ?_; clear hK K) | refine thn_ret ?_ | refine blk_ret ?_ | (refine thn_exit (K := K) ?_; clear hK K) | refine thn_exit ?_ | refine blk_here ?_ | refine blk_past rfl ?_ | refine thn_norm ?_ | refine blk_norm ?_ | refine CW.condT rfl ?_ | refine CW.condF rfl ?_ | (refine hK _ _ ?_; clear hK K))
      first | refine WL.step rfl ?_ | refine WL.gstep rfl rfl rfl rfl ?_
      refine OpW.call ((downOD h6).mono ?_) rfl
      rintro v w7 ⟨rfl, g7⟩
      have h7 := h6.grow g7
      have gW7 := gW6.then g7
      replace hb := hb.grow g7
      cases hoff : d.off with
      | false =>
        repeat (first | refine WL.nil ?_ | refine WL.auto (h := ?_) | refine WL.gskip rfl rfl rfl rfl ?_ | refine WL.gauto (h := ?_) | (refine CW.seq ?_; intro K hK) | refine CW.block ?_ | refine CW.region ?_ | refine CW.skip ?_ | refine CW.exit ?_ | refine CW.ret ?_ | (refine thn_ret (K := K) ?_; clear hK K) | refine thn_ret ?_ | refine blk_ret ?_ | (refine thn_exit (K := K) ?_; clear hK K) | refine thn_exit ?_ | refine blk_here ?_ | refine blk_past rfl ?_ | refine thn_norm ?_ | refine blk_norm ?_ | refine CW.condT rfl ?_ | refine CW.condF rfl ?_ | (refine hK _ _ ?_; clear hK K))
        refine CW.held (fun i => i ≠ b3) (.take 0 (.take 2 (.one 1 (.one 3 .nil)))) rfl (by kernel_rfl) (by kernel_rfl) (fun w8 g8 => ?_)
        have h8 := h7.grow g8
        repeat (first | refine AL.nil ?_ | refine AL.auto (hn := ?_) | refine AL.gskip rfl rfl rfl rfl rfl ?_ | refine AL.goneSkip rfl rfl rfl rfl rfl ?_ | refine AL.gauto (hn := ?_) | refine AL.oauto (hn := ?_))
        refine AL.take rfl rfl rfl (fun w hg => OpW.loadAgg [.int .i64 o.kind, .int .i64 o.n, .string (bstr o.name), .slice BA o.b.length bcap, .slice KA o.keep.length kcap] rfl (hb.keep hg fun h => h rfl) rfl rfl ⟨rfl, rfl⟩) ?_
        have hx8 := h4.more (g6.then (g7.then g8))
        have hbx : w4.heap.size ≤ b3 ∧ b3 < w8.heap.size := ⟨hb3, (hb.grow g8).lt⟩
        have gW8 := gW7.then g8
        first | refine AL.one rfl rfl ?_ | refine AL.gone rfl rfl rfl rfl rfl ?_
        refine OpW.call ((new59 w8).mono ?_) rfl
        rintro v w9 ⟨mb, rfl, n9⟩
        refine ⟨fun h => h.grow n9.grow, ?_⟩
        have h9 := hx8.newM n9
        have gW9 := gW8.then n9.grow
        repeat (first | refine AL.nil ?_ | refine AL.auto (hn := ?_) | refine AL.gskip rfl rfl rfl rfl rfl ?_ | refine AL.goneSkip rfl rfl rfl rfl rfl ?_ | refine AL.gauto (hn := ?_) | refine AL.oauto (hn := ?_))
        first | refine AL.one rfl rfl ?_ | refine AL.gone rfl rfl rfl rfl rfl ?_
        refine OpW.call ((play57 (M := 1048576 + putSum ops k) h9 o BA KA bcap kcap (q1.grow gW9) (fun hne a ha => Or.inl (q1.lt (ne_bvs hne) ha)) (q4.grow gW9) (fun hne a ha => Or.inl (q4.lt hne ha)) q5 hf (Fit.new.le (Nat.zero_le _)) (by omega) ⟨z1, z2, z3⟩).mono ?_) rfl
        rintro v w10 ⟨r, rfl, _, h10, c10⟩
        refine ⟨fun h => h.andThen (c10.mono fun i _ hi e => hi (by rw [e]; exact Or.inr hbx)), ?_⟩
        repeat (first | refine AL.nil ?_ | refine AL.auto (hn := ?_) | refine AL.gskip rfl rfl rfl rfl rfl ?_ | refine AL.goneSkip rfl rfl rfl rfl rfl ?_ | refine AL.gauto (hn := ?_) | refine AL.oauto (hn := ?_))
        repeat (first | refine WL.nil ?_ | refine WL.auto (h := ?_) | refine WL.gskip rfl rfl rfl rfl ?_ | refine WL.gauto (h := ?_) | (refine CW.seq ?_; intro K hK) | refine CW.block ?_ | refine CW.region ?_ | refine CW.skip ?_ | refine CW.exit ?_ | refine CW.ret ?_ | (refine thn_ret (K := K) ?_; clear hK K) | refine thn_ret ?_ | refine blk_ret ?_ | (refine thn_exit (K := K) ?_; clear hK K) | refine thn_exit ?_ | refine blk_here ?_ | refine blk_past rfl ?_ | refine thn_norm ?_ | refine blk_norm ?_ | refine CW.condT rfl ?_ | refine CW.condF rfl ?_ | (refine hK _ _ ?_; clear hK K))
        exact hJ (ops.length - (k + 1)) _ _ (by omega) ⟨k + 1, _, by omega, rfl, (hf.play o q7.2).le (by omega), h10.one.less fun _ h => Or.inl h, base_grow (fun _ h => Or.inl h) gW9 c10, rep4 rfl rfl rfl (congrArg (Value.int .i64) (by omega))⟩
      | true =>
        repeat (first | refine WL.nil ?_ | refine WL.auto (h := ?_) | refine WL.gskip rfl rfl rfl rfl ?_ | refine WL.gauto (h := ?_) | (refine CW.seq ?_; intro K hK) | refine CW.block ?_ | refine CW.region ?_ | refine CW.skip ?_ | refine CW.exit ?_ | refine CW.ret ?_ | (refine thn_ret (K := K) ?_; clear hK K) | refine thn_ret ?_ | refine blk_ret ?_ | (refine thn_exit (K := K) ?_; clear hK K) | refine thn_exit ?_ | refine blk_here ?_ | refine blk_past rfl ?_ | refine thn_norm ?_ | refine blk_norm ?_ | refine CW.condT rfl ?_ | refine CW.condF rfl ?_ | (refine hK _ _ ?_; clear hK K))
        first | refine WL.step rfl ?_ | refine WL.gstep rfl rfl rfl rfl ?_
        refine OpW.call ((crashOD h7 KA kcap o.keep hf (by omega) (q4.grow gW7) (by omega) q5).mono ?_) rfl
        rintro v w8 ⟨g8, OA8, oc8, rfl, o8⟩
        have hx8 := h4.more (g6.then (g7.then g8))
        replace hb := hb.grow g8
        replace o8 := o8.lt
        have z8 : w4.heap.size ≤ w7.heap.size := (g6.then g7).size
        have hbx : ¬ ¬ (b3 < W.heap.size ∨ w4.heap.size ≤ b3 ∧ b3 < w8.heap.size) := not_not_intro (Or.inr ⟨hb3, hb.lt⟩)
        have hoX : ∀ b, (fresh w7 b ∧ b < w8.heap.size) → ¬ ¬ (b < W.heap.size ∨ w4.heap.size ≤ b ∧ b < w8.heap.size) := fun b h => not_not_intro (Or.inr ⟨Nat.le_trans z8 h.1, h.2⟩)
        have gW8 := gW7.then g8
        have hl16 : (crashAll d.files o.keep).1.length ≤ 16 := by rw [crashAll_length]; exact hf.good.len
        repeat (first | refine WL.nil ?_ | refine WL.auto (h := ?_) | refine WL.gskip rfl rfl rfl rfl ?_ | refine WL.gauto (h := ?_) | (refine CW.seq ?_; intro K hK) | refine CW.block ?_ | refine CW.region ?_ | refine CW.skip ?_ | refine CW.exit ?_ | refine CW.ret ?_ | (refine thn_ret (K := K) ?_; clear hK K) | refine thn_ret ?_ | refine blk_ret ?_ | (refine thn_exit (K := K) ?_; clear hK K) | refine thn_exit ?_ | refine blk_here ?_ | refine blk_past rfl ?_ | refine thn_norm ?_ | refine blk_norm ?_ | refine CW.condT rfl ?_ | refine CW.condF rfl ?_ | (refine hK _ _ ?_; clear hK K))
        first | refine WL.step rfl ?_ | refine WL.gstep rfl rfl rfl rfl ?_
        refine OpW.call ((readOD hx8 o.name hf (by omega)).mono ?_) rfl
        rintro v w9 ⟨g9, A9, c9, rfl, _⟩
        rw [off_read hoff]
        have hx9 := hx8.grow g9
        replace hb := hb.grow g9
        replace o8 := o8.grow g9
        have gW9 := gW8.then g9
        repeat (first | refine WL.nil ?_ | refine WL.auto (h := ?_) | refine WL.gskip rfl rfl rfl rfl ?_ | refine WL.gauto (h := ?_) | (refine CW.seq ?_; intro K hK) | refine CW.block ?_ | refine CW.region ?_ | refine CW.skip ?_ | refine CW.exit ?_ | refine CW.ret ?_ | (refine thn_ret (K := K) ?_; clear hK K) | refine thn_ret ?_ | refine blk_ret ?_ | (refine thn_exit (K := K) ?_; clear hK K) | refine thn_exit ?_ | refine blk_here ?_ | refine blk_past rfl ?_ | refine thn_norm ?_ | refine blk_norm ?_ | refine CW.condT rfl ?_ | refine CW.condF rfl ?_ | (refine hK _ _ ?_; clear hK K))
        first | refine WL.step rfl ?_ | refine WL.gstep rfl rfl rfl rfl ?_
        refine OpW.call ((armOD hx9 o.n).mono ?_) rfl
        rintro v w10 ⟨hx10, c10⟩
        rw [off_arm hoff] at hx10
        replace hb := hb.keep c10 hbx
        replace o8 := o8.keep c10 hoX
        have gW10 := base_grow (fun _ h => Or.inl h) gW9 c10
        repeat (first | refine WL.nil ?_ | refine WL.auto (h := ?_) | refine WL.gskip rfl rfl rfl rfl ?_ | refine WL.gauto (h := ?_) | (refine CW.seq ?_; intro K hK) | refine CW.block ?_ | refine CW.region ?_ | refine CW.skip ?_ | refine CW.exit ?_ | refine CW.ret ?_ | (refine thn_ret (K := K) ?_; clear hK K) | refine thn_ret ?_ | refine blk_ret ?_ | (refine thn_exit (K := K) ?_; clear hK K) | refine thn_exit ?_ | refine blk_here ?_ | refine blk_past rfl ?_ | refine thn_norm ?_ | refine blk_norm ?_ | refine CW.condT rfl ?_ | refine CW.condF rfl ?_ | (refine hK _ _ ?_; clear hK K))
        first | refine WL.step rfl ?_ | refine WL.gstep rfl rfl rfl rfl ?_
        refine OpW.call ((appendOD hx10 o.name o.b BA bcap hf (by omega) (by omega) (q1.grow gW10) (fun hne a ha => Or.inl (q1.lt (ne_bvs hne) ha)) (by omega)).mono ?_) rfl
        rintro v w11 ⟨rfl, hx11, c11⟩
        rw [off_append hoff] at hx11 ⊢
        simp only at hx11
        replace hb := hb.keep c11 hbx
        replace o8 := o8.keep c11 hoX
        have gW11 := base_grow (fun _ h => Or.inl h) gW10 c11
        repeat (first | refine WL.nil ?_ | refine WL.auto (h := ?_) | refine WL.gskip rfl rfl rfl rfl ?_ | refine WL.gauto (h := ?_) | (refine CW.seq ?_; intro K hK) | refine CW.block ?_ | refine CW.region ?_ | refine CW.skip ?_ | refine CW.exit ?_ | refine CW.ret ?_ | (refine thn_ret (K := K) ?_; clear hK K) | refine thn_ret ?_ | refine blk_ret ?_ | (refine thn_exit (K := K) ?_; clear hK K) | refine thn_exit ?_ | refine blk_here ?_ | refine blk_past rfl ?_ | refine thn_norm ?_ | refine blk_norm ?_ | refine CW.condT rfl ?_ | refine CW.condF rfl ?_ | (refine hK _ _ ?_; clear hK K))
        first | refine WL.step rfl ?_ | refine WL.gstep rfl rfl rfl rfl ?_
        refine OpW.call ((syncOD hx11 o.name hf).mono ?_) rfl
        rintro v w12 ⟨rfl, hx12, c12⟩
        rw [off_sync hoff] at hx12 ⊢
        simp only at hx12
        replace hb := hb.keep c12 hbx
        replace o8 := o8.keep c12 hoX
        have gW12 := base_grow (fun _ h => Or.inl h) gW11 c12
        repeat (first | refine WL.nil ?_ | refine WL.auto (h := ?_) | refine WL.gskip rfl rfl rfl rfl ?_ | refine WL.gauto (h := ?_) | (refine CW.seq ?_; intro K hK) | refine CW.block ?_ | refine CW.region ?_ | refine CW.skip ?_ | refine CW.exit ?_ | refine CW.ret ?_ | (refine thn_ret (K := K) ?_; clear hK K) | refine thn_ret ?_ | refine blk_ret ?_ | (refine thn_exit (K := K) ?_; clear hK K) | refine thn_exit ?_ | refine blk_here ?_ | refine blk_past rfl ?_ | refine thn_norm ?_ | refine blk_norm ?_ | refine CW.condT rfl ?_ | refine CW.condF rfl ?_ | (refine hK _ _ ?_; clear hK K))
        first | refine WL.step rfl ?_ | refine WL.gstep rfl rfl rfl rfl ?_
        refine OpW.call ((truncateOD hx12 o.name o.n hf).mono ?_) rfl
        rintro v w13 ⟨rfl, hx13, c13⟩
        rw [off_truncate hoff] at hx13 ⊢
        simp only at hx13
        replace hb := hb.keep c13 hbx
        replace o8 := o8.keep c13 hoX
        have gW13 := base_grow (fun _ h => Or.inl h) gW12 c13
        repeat (first | refine WL.nil ?_ | refine WL.auto (h := ?_) | refine WL.gskip rfl rfl rfl rfl ?_ | refine WL.gauto (h := ?_) | (refine CW.seq ?_; intro K hK) | refine CW.block ?_ | refine CW.region ?_ | refine CW.skip ?_ | refine CW.exit ?_ | refine CW.ret ?_ | (refine thn_ret (K := K) ?_; clear hK K) | refine thn_ret ?_ | refine blk_ret ?_ | (refine thn_exit (K := K) ?_; clear hK K) | refine thn_exit ?_ | refine blk_here ?_ | refine blk_past rfl ?_ | refine thn_norm ?_ | refine blk_norm ?_ | refine CW.condT rfl ?_ | refine CW.condF rfl ?_ | (refine hK _ _ ?_; clear hK K))
        first | refine WL.step rfl ?_ | refine WL.gstep rfl rfl rfl rfl ?_
        refine OpW.call ((crashOD hx13 KA kcap o.keep hf (by omega) (q4.grow gW13) (by omega) q5).mono ?_) rfl
        rintro v w14 ⟨g14, OA14, oc14, rfl, o14⟩
        have hx14 := hx13.grow g14
        repeat (first | refine WL.nil ?_ | refine WL.auto (h := ?_) | refine WL.gskip rfl rfl rfl rfl ?_ | refine WL.gauto (h := ?_) | (refine CW.seq ?_; intro K hK) | refine CW.block ?_ | refine CW.region ?_ | refine CW.skip ?_ | refine CW.exit ?_ | refine CW.ret ?_ | (refine thn_ret (K := K) ?_; clear hK K) | refine thn_ret ?_ | refine blk_ret ?_ | (refine thn_exit (K := K) ?_; clear hK K) | refine thn_exit ?_ | refine blk_here ?_ | refine blk_past rfl ?_ | refine thn_norm ?_ | refine blk_norm ?_ | refine CW.condT rfl ?_ | refine CW.condF rfl ?_ | (refine hK _ _ ?_; clear hK K))
        first | refine WL.step rfl ?_ | refine WL.gstep rfl rfl rfl rfl ?_
        refine OpW.call ((same37 _ _ _ _ _ _ _ _ _ o14 (o8.grow g14) (by omega) (by omega)).mono ?_) rfl
        rintro v w15 ⟨rfl, g15⟩
        rw [decide_eq_true (p := (crashAll d.files o.keep).1 = (crashAll d.files o.keep).1) rfl]
        repeat (first | refine WL.nil ?_ | refine WL.auto (h := ?_) | refine WL.gskip rfl rfl rfl rfl ?_ | refine WL.gauto (h := ?_) | (refine CW.seq ?_; intro K hK) | refine CW.block ?_ | refine CW.region ?_ | refine CW.skip ?_ | refine CW.exit ?_ | refine CW.ret ?_ | (refine thn_ret (K := K) ?_; clear hK K) | refine thn_ret ?_ | refine blk_ret ?_ | (refine thn_exit (K := K) ?_; clear hK K) | refine thn_exit ?_ | refine blk_here ?_ | refine blk_past rfl ?_ | refine thn_norm ?_ | refine blk_norm ?_ | refine CW.condT rfl ?_ | refine CW.condF rfl ?_ | (refine hK _ _ ?_; clear hK K))
        exact hJ (ops.length - (k + 1)) _ _ (by omega) ⟨k + 1, d, by omega, rfl, hf.le (by omega), (hx14.grow g15).less fun _ h => Or.inl h, gW13.then (g14.then g15), rep4 rfl rfl rfl (congrArg (Value.int .i64) (by omega))⟩
    · obtain rfl : k = ops.length := by omega
      repeat (first | refine WL.nil ?_ | refine WL.auto (h := ?_) | refine WL.gskip rfl rfl rfl rfl ?_ | refine WL.gauto (h := ?_) | (refine CW.seq ?_; intro K hK) | refine CW.block ?_ | refine CW.region ?_ | refine CW.skip ?_ | refine CW.exit ?_ | refine CW.ret ?_ | (refine thn_ret (K := K) ?_; clear hK K) | refine thn_ret ?_ | refine blk_ret ?_ | (refine thn_exit (K := K) ?_; clear hK K) | refine thn_exit ?_ | refine blk_here ?_ | refine blk_past rfl ?_ | refine thn_norm ?_ | refine blk_norm ?_ | refine CW.condT rfl ?_ | refine CW.condF rfl ?_ | (refine hK _ _ ?_; clear hK K))
      exact out1 (v := .bool true) Try.results15 rfl ⟨rfl, gW⟩ (Or.inr rfl)
end B
end Go.Proofs.Ytlofcomnhecgfaa
