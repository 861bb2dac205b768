/- The walk of isthmuslaw06.DiskMemory: it is true. Sizes are bounded. -/
import Derived.Test.YtlofcomnhecgfaaLOff
import Derived.Test.YtlofcomnhecgfaaMem5
namespace Go.Proofs.Ytlofcomnhecgfaa
namespace B
attribute [local irreducible] OpW WL CW Ret Sl Blk thn blk outOf
set_option linter.unusedVariables false
set_option linter.unusedSimpArgs false
set_option maxRecDepth 4000

theorem bvs_upd {l : List UInt8} {i : Nat} {c : UInt8} {n : Nat} (hl : l.length = n) : ∃ l' : List UInt8, l'.length = n ∧ (bvs l).set i (bv c) = bvs l' := ⟨l.set i c, by simpa using hl, (bvs_set l i c).symm⟩
/-- What is left alone where only one slice's block is written. -/
theorem Own.aside {w w' : World} {A B : Option Addr} {E k n cap : Nat} {xs : List Value} {Z : Nat → Prop} (h : Own w A E k n cap xs Z) (hc : Chg (fun b => ∃ a, B = some a ∧ a.block = b) w w') (hn : ∀ a, B = some a → ¬ Z a.block) : Own w' A E k n cap xs Z := h.keep hc fun b hb ⟨a, ha, e⟩ => hn a ha (by rw [e]; exact hb)

theorem mem13 (A : Option Addr) (cap : Nat) (b : List UInt8) (W : World) (hs : Sl W A (bvs b)) (hl : b.length ≤ 1048576) :
    Ret Try.prog 13 #[.slice A b.length cap] W fun v w' => v = .bool true ∧ Grow W w' := by
  refine Ret.enter (fn := Try.f13) (N := 181) Try.func13 rfl Try.ntmps13 rfl ?_
  repeat (first | refine WL.nil ?_ | refine WL.auto (h := ?_) | refine WL.gskip rfl rfl rfl rfl ?_ | refine WL.gauto (h := ?_) | (refine CW.seq ?_; intro K hK) | refine CW.block ?_ | refine CW.region ?_ | refine CW.skip ?_ | refine CW.exit ?_ | refine CW.ret ?_ | (refine thn_ret (K := K) ?_; clear hK K) | refine thn_ret ?_ | refine blk_ret ?_ | (refine thn_exit (K := K) ?_; clear hK K) | refine thn_exit ?_ | refine blk_here ?_ | refine blk_past rfl ?_ | refine thn_norm ?_ | refine blk_norm ?_ | refine CW.condT rfl ?_ | refine CW.condF rfl ?_ | (refine hK _ _ ?_; clear hK K))
  first | refine WL.step rfl ?_ | refine WL.gstep rfl rfl rfl rfl ?_
  refine OpW.call ((fixed31 W).mono ?_) rfl
  rintro v w1 ⟨rfl, g1⟩
  repeat (first | refine WL.nil ?_ | refine WL.auto (h := ?_) | refine WL.gskip rfl rfl rfl rfl ?_ | refine WL.gauto (h := ?_) | (refine CW.seq ?_; intro K hK) | refine CW.block ?_ | refine CW.region ?_ | refine CW.skip ?_ | refine CW.exit ?_ | refine CW.ret ?_ | (refine thn_ret (K := K) ?_; clear hK K) | refine thn_ret ?_ | refine blk_ret ?_ | (refine thn_exit (K := K) ?_; clear hK K) | refine thn_exit ?_ | refine blk_here ?_ | refine blk_past rfl ?_ | refine thn_norm ?_ | refine blk_norm ?_ | refine CW.condT rfl ?_ | refine CW.condF rfl ?_ | (refine hK _ _ ?_; clear hK K))
  first | refine WL.step rfl ?_ | refine WL.gstep rfl rfl rfl rfl ?_
  refine OpW.buildNone (fun b2 w2 n2 => ?_)
  repeat (first | refine WL.nil ?_ | refine WL.auto (h := ?_) | refine WL.gskip rfl rfl rfl rfl ?_ | refine WL.gauto (h := ?_) | (refine CW.seq ?_; intro K hK) | refine CW.block ?_ | refine CW.region ?_ | refine CW.skip ?_ | refine CW.exit ?_ | refine CW.ret ?_ | (refine thn_ret (K := K) ?_; clear hK K) | refine thn_ret ?_ | refine blk_ret ?_ | (refine thn_exit (K := K) ?_; clear hK K) | refine thn_exit ?_ | refine blk_here ?_ | refine blk_past rfl ?_ | refine thn_norm ?_ | refine blk_norm ?_ | refine CW.condT rfl ?_ | refine CW.condF rfl ?_ | (refine hK _ _ ?_; clear hK K))
  first | refine WL.step rfl ?_ | refine WL.gstep rfl rfl rfl rfl ?_
  refine OpW.appB (w0 := w1) (l := []) (m := b) rfl rfl rfl rfl rfl rfl (Own.empty n2) ((hs.grow g1).grow n2.grow) n2.grow (by simp; omega) (fun A3 c3 w3 o3 g3 _ => ?_)
  rw [List.nil_append] at o3 ⊢
  repeat (first | refine WL.nil ?_ | refine WL.auto (h := ?_) | refine WL.gskip rfl rfl rfl rfl ?_ | refine WL.gauto (h := ?_) | (refine CW.seq ?_; intro K hK) | refine CW.block ?_ | refine CW.region ?_ | refine CW.skip ?_ | refine CW.exit ?_ | refine CW.ret ?_ | (refine thn_ret (K := K) ?_; clear hK K) | refine thn_ret ?_ | refine blk_ret ?_ | (refine thn_exit (K := K) ?_; clear hK K) | refine thn_exit ?_ | refine blk_here ?_ | refine blk_past rfl ?_ | refine thn_norm ?_ | refine blk_norm ?_ | refine CW.condT rfl ?_ | refine CW.condF rfl ?_ | (refine hK _ _ ?_; clear hK K))
  first | refine WL.step rfl ?_ | refine WL.gstep rfl rfl rfl rfl ?_
  refine OpW.build (cells := #[.string (bstr [102]), .slice A3 b.length c3]) rfl rfl ?_
  repeat (first | refine WL.nil ?_ | refine WL.auto (h := ?_) | refine WL.gskip rfl rfl rfl rfl ?_ | refine WL.gauto (h := ?_) | (refine CW.seq ?_; intro K hK) | refine CW.block ?_ | refine CW.region ?_ | refine CW.skip ?_ | refine CW.exit ?_ | refine CW.ret ?_ | (refine thn_ret (K := K) ?_; clear hK K) | refine thn_ret ?_ | refine blk_ret ?_ | (refine thn_exit (K := K) ?_; clear hK K) | refine thn_exit ?_ | refine blk_here ?_ | refine blk_past rfl ?_ | refine thn_norm ?_ | refine blk_norm ?_ | refine CW.condT rfl ?_ | refine CW.condF rfl ?_ | (refine hK _ _ ?_; clear hK K))
  first | refine WL.step rfl ?_ | refine WL.gstep rfl rfl rfl rfl ?_
  refine OpW.buildOne (.agg #[.string (bstr [102]), .slice A3 b.length c3]) rfl rfl rfl ?_
  intro b4 w4 n4
  have o4 := o3.grow n4.grow
  have hfi : FilesIn w4 (some ⟨b4, 0, none⟩) [([102], b)] (fun k => k < w4.heap.size) := by
    refine ⟨[.string (bstr [102]), .slice A3 b.length c3], blk_sl_lit (vs := [.string (bstr [102]), .slice A3 b.length c3]) n4, fun _ a ha => (by cases ha; exact n4.blk.lt), rfl, fun i x hx => ?_⟩
    cases i with
    | zero => cases hx; exact ⟨A3, c3, rfl, o4.sl, fun _ a ha => (o4.in_ ha).2, o4.le⟩
    | succ i => simp at hx
  have hlg : loadGo [] [([102], b)] = some [⟨[102], b, b.length⟩] := by simp [loadGo, rightName, PD.ix]
  have g14 := g3.then n4.grow
  repeat (first | refine WL.nil ?_ | refine WL.auto (h := ?_) | refine WL.gskip rfl rfl rfl rfl ?_ | refine WL.gauto (h := ?_) | (refine CW.seq ?_; intro K hK) | refine CW.block ?_ | refine CW.region ?_ | refine CW.skip ?_ | refine CW.exit ?_ | refine CW.ret ?_ | (refine thn_ret (K := K) ?_; clear hK K) | refine thn_ret ?_ | refine blk_ret ?_ | (refine thn_exit (K := K) ?_; clear hK K) | refine thn_exit ?_ | refine blk_here ?_ | refine blk_past rfl ?_ | refine thn_norm ?_ | refine blk_norm ?_ | refine CW.condT rfl ?_ | refine CW.condF rfl ?_ | (refine hK _ _ ?_; clear hK K))
  first | refine WL.step rfl ?_ | refine WL.gstep rfl rfl rfl rfl ?_
  refine OpW.call ((loadOne (X := fun k => k < w4.heap.size) (fun _ h => h) _ 1 [([102], b)] _ hfi (by simp) (by intro x hx; simp only [List.mem_cons, List.not_mem_nil, or_false] at hx; subst hx; simp only; exact ⟨by simp, by omega⟩)).mono ?_) rfl
  rintro v w5 ⟨g5, _, hsome⟩
  obtain ⟨db, rfl, h5⟩ := hsome _ hlg
  have hf5 : Fit ⟨[⟨[102], b, b.length⟩], false, 0⟩ b.length := by
    obtain ⟨_, h6⟩ := load_fit (n := b.length + 1) hlg (by intro x hx; simp only [List.mem_cons, List.not_mem_nil, or_false] at hx; subst hx; simp only; exact ⟨by simp, by omega⟩)
    exact ⟨h6.good, h6.arm, fun f hf => by simp only [List.mem_cons, List.not_mem_nil, or_false] at hf; subst hf; exact Nat.le_refl _⟩
  have o5 := o4.grow g5
  repeat (first | refine WL.nil ?_ | refine WL.auto (h := ?_) | refine WL.gskip rfl rfl rfl rfl ?_ | refine WL.gauto (h := ?_) | (refine CW.seq ?_; intro K hK) | refine CW.block ?_ | refine CW.region ?_ | refine CW.skip ?_ | refine CW.exit ?_ | refine CW.ret ?_ | (refine thn_ret (K := K) ?_; clear hK K) | refine thn_ret ?_ | refine blk_ret ?_ | (refine thn_exit (K := K) ?_; clear hK K) | refine thn_exit ?_ | refine blk_here ?_ | refine blk_past rfl ?_ | refine thn_norm ?_ | refine blk_norm ?_ | refine CW.condT rfl ?_ | refine CW.condF rfl ?_ | (refine hK _ _ ?_; clear hK K))
  first | refine WL.step rfl ?_ | refine WL.gstep rfl rfl rfl rfl ?_
  refine OpW.call ((appendOD h5 [103] b A3 c3 hf5 (by omega) (by decide) o5.sl (fun _ a ha => (o4.in_ ha).2) (by omega)).mono ?_) rfl
  rintro v w6 ⟨rfl, h6, c6⟩
  have hf6 := hf5.append [103] b
  rw [show (PD.append ⟨[⟨[102], b, b.length⟩], false, 0⟩ [103] b) = (0, ⟨[⟨[102], b, b.length⟩, ⟨[103], b, 0⟩], false, 0⟩) from rfl] at h6 hf6 ⊢
  simp only at h6 hf6
  have o6 : Own w6 A3 5 1 b.length c3 (bvs b) (fun k => w1.heap.size ≤ k ∧ k < w4.heap.size) := (o5.zone (Z' := fun k => w1.heap.size ≤ k ∧ k < w4.heap.size) fun a ha => ⟨(o4.in_ ha).1, (o4.in_ ha).2⟩).keep c6 fun k hk hn => hn hk.2
  have gW6 : Grow w1 w6 := base_grow (X := fun k => k < w4.heap.size) (fun k hk => by have := g14.size; omega) (g14.then g5) c6
  clear h5 hf5 o5 o4 o3 hfi hlg
  repeat (first | refine WL.nil ?_ | refine WL.auto (h := ?_) | refine WL.gskip rfl rfl rfl rfl ?_ | refine WL.gauto (h := ?_) | (refine CW.seq ?_; intro K hK) | refine CW.block ?_ | refine CW.region ?_ | refine CW.skip ?_ | refine CW.exit ?_ | refine CW.ret ?_ | (refine thn_ret (K := K) ?_; clear hK K) | refine thn_ret ?_ | refine blk_ret ?_ | (refine thn_exit (K := K) ?_; clear hK K) | refine thn_exit ?_ | refine blk_here ?_ | refine blk_past rfl ?_ | refine thn_norm ?_ | refine blk_norm ?_ | refine CW.condT rfl ?_ | refine CW.condF rfl ?_ | (refine hK _ _ ?_; clear hK K))
  refine CW.loop (fun n' e w7 => ∃ (k : Nat) (l' : List UInt8), k ≤ b.length ∧ n' = b.length - k ∧ l'.length = b.length ∧ Own w7 A3 5 1 b.length c3 (bvs l') (fun k => w1.heap.size ≤ k ∧ k < w4.heap.size) ∧ One (fun k => k < w4.heap.size) w7 db ⟨[⟨[102], b, b.length⟩, ⟨[103], b, 0⟩], false, 0⟩ ∧ Grow w1 w7 ∧
    ∃ e0, e = upd (upd (upd (upd (upd e0 0 (.slice A b.length cap)) 3 (.slice A3 b.length c3)) 4 (.pointer (some ⟨db, 0, none⟩))) 44 (.int .i64 b.length)) 45 (.int .i64 k)) b.length ?_ ?_
  · exact ⟨0, b, by omega, rfl, rfl, o6, h6, gW6, rep5 rfl rfl rfl rfl rfl⟩
  clear h6 o6 gW6
  rintro n' e w7 ⟨k, l', hk, rfl, hl', o7, h7, gW7, e0, rfl⟩ KJ hJ
  repeat (first | refine WL.nil ?_ | refine WL.auto (h := ?_) | refine WL.gskip rfl rfl rfl rfl ?_ | refine WL.gauto (h := ?_) | (refine CW.seq ?_; intro K hK) | refine CW.block ?_ | refine CW.region ?_ | refine CW.skip ?_ | refine CW.exit ?_ | refine CW.ret ?_ | (refine thn_ret (K := K) ?_; clear hK K) | refine thn_ret ?_ | refine blk_ret ?_ | (refine thn_exit (K := K) ?_; clear hK K) | refine thn_exit ?_ | refine blk_here ?_ | refine blk_past rfl ?_ | refine thn_norm ?_ | refine blk_norm ?_ | refine CW.condT rfl ?_ | refine CW.condF rfl ?_ | (refine hK _ _ ?_; clear hK K))
  refine CW.condP rfl (fun hc => ?_) (fun hc => ?_)
  · have hkl : k < b.length := by omega
    have hkb : k < (bvs l').length := by rw [bvs_length]; omega
    have hcell : (bvs l')[k]? = some (bv (l'[k]'(by omega))) := by rw [bvs_get, List.getElem?_eq_getElem (by omega)]; rfl
    generalize l'[k]'(by omega) = c at *
    have hsl := o7.sl
    repeat (first | refine WL.nil ?_ | refine WL.auto (h := ?_) | refine WL.gskip rfl rfl rfl rfl ?_ | refine WL.gauto (h := ?_) | (refine CW.seq ?_; intro K hK) | refine CW.block ?_ | refine CW.region ?_ | refine CW.skip ?_ | refine CW.exit ?_ | refine CW.ret ?_ | (refine thn_ret (K := K) ?_; clear hK K) | refine thn_ret ?_ | refine blk_ret ?_ | (refine thn_exit (K := K) ?_; clear hK K) | refine thn_exit ?_ | refine blk_here ?_ | refine blk_past rfl ?_ | refine thn_norm ?_ | refine blk_norm ?_ | refine CW.condT rfl ?_ | refine CW.condF rfl ?_ | (refine hK _ _ ?_; clear hK K))
    first | refine WL.step rfl ?_ | refine WL.gstep rfl rfl rfl rfl ?_
    refine OpW.indexAddr k rfl rfl rfl hkl (sl_ne hsl hkb) (spot_own o7) ?_
    repeat (first | refine WL.nil ?_ | refine WL.auto (h := ?_) | refine WL.gskip rfl rfl rfl rfl ?_ | refine WL.gauto (h := ?_) | (refine CW.seq ?_; intro K hK) | refine CW.block ?_ | refine CW.region ?_ | refine CW.skip ?_ | refine CW.exit ?_ | refine CW.ret ?_ | (refine thn_ret (K := K) ?_; clear hK K) | refine thn_ret ?_ | refine blk_ret ?_ | (refine thn_exit (K := K) ?_; clear hK K) | refine thn_exit ?_ | refine blk_here ?_ | refine blk_past rfl ?_ | refine thn_norm ?_ | refine blk_norm ?_ | refine CW.condT rfl ?_ | refine CW.condF rfl ?_ | (refine hK _ _ ?_; clear hK K))
    first | refine WL.step rfl ?_ | refine WL.gstep rfl rfl rfl rfl ?_
    refine OpW.loadS (v := bv c) rfl hsl (by simpa using hcell) ?_
    repeat (first | refine WL.nil ?_ | refine WL.auto (h := ?_) | refine WL.gskip rfl rfl rfl rfl ?_ | refine WL.gauto (h := ?_) | (refine CW.seq ?_; intro K hK) | refine CW.block ?_ | refine CW.region ?_ | refine CW.skip ?_ | refine CW.exit ?_ | refine CW.ret ?_ | (refine thn_ret (K := K) ?_; clear hK K) | refine thn_ret ?_ | refine blk_ret ?_ | (refine thn_exit (K := K) ?_; clear hK K) | refine thn_exit ?_ | refine blk_here ?_ | refine blk_past rfl ?_ | refine thn_norm ?_ | refine blk_norm ?_ | refine CW.condT rfl ?_ | refine CW.condF rfl ?_ | (refine hK _ _ ?_; clear hK K))
    first | refine WL.step rfl ?_ | refine WL.gstep rfl rfl rfl rfl ?_
    refine OpW.xorByte 255 rfl rfl rfl ?_
    repeat (first | refine WL.nil ?_ | refine WL.auto (h := ?_) | refine WL.gskip rfl rfl rfl rfl ?_ | refine WL.gauto (h := ?_) | (refine CW.seq ?_; intro K hK) | refine CW.block ?_ | refine CW.region ?_ | refine CW.skip ?_ | refine CW.exit ?_ | refine CW.ret ?_ | (refine thn_ret (K := K) ?_; clear hK K) | refine thn_ret ?_ | refine blk_ret ?_ | (refine thn_exit (K := K) ?_; clear hK K) | refine thn_exit ?_ | refine blk_here ?_ | refine blk_past rfl ?_ | refine thn_norm ?_ | refine blk_norm ?_ | refine CW.condT rfl ?_ | refine CW.condF rfl ?_ | (refine hK _ _ ?_; clear hK K))
    first | refine WL.step rfl ?_ | refine WL.gstep rfl rfl rfl rfl ?_
    refine OpW.indexAddr k rfl rfl rfl hkl (sl_ne hsl hkb) (spot_own o7) ?_
    repeat (first | refine WL.nil ?_ | refine WL.auto (h := ?_) | refine WL.gskip rfl rfl rfl rfl ?_ | refine WL.gauto (h := ?_) | (refine CW.seq ?_; intro K hK) | refine CW.block ?_ | refine CW.region ?_ | refine CW.skip ?_ | refine CW.exit ?_ | refine CW.ret ?_ | (refine thn_ret (K := K) ?_; clear hK K) | refine thn_ret ?_ | refine blk_ret ?_ | (refine thn_exit (K := K) ?_; clear hK K) | refine thn_exit ?_ | refine blk_here ?_ | refine blk_past rfl ?_ | refine thn_norm ?_ | refine blk_norm ?_ | refine CW.condT rfl ?_ | refine CW.condF rfl ?_ | (refine hK _ _ ?_; clear hK K))
    refine WL.step0 ?_
    refine OpW.storeOwn (v := bv (c ^^^ 255)) rfl rfl rfl o7 hkl ?_
    intro w8 o8 c8 _
    obtain ⟨l2, hl2, e2⟩ := bvs_upd (i := k) (c := c ^^^ 255) hl'
    rw [e2] at o8
    repeat (first | refine WL.nil ?_ | refine WL.auto (h := ?_) | refine WL.gskip rfl rfl rfl rfl ?_ | refine WL.gauto (h := ?_) | (refine CW.seq ?_; intro K hK) | refine CW.block ?_ | refine CW.region ?_ | refine CW.skip ?_ | refine CW.exit ?_ | refine CW.ret ?_ | (refine thn_ret (K := K) ?_; clear hK K) | refine thn_ret ?_ | refine blk_ret ?_ | (refine thn_exit (K := K) ?_; clear hK K) | refine thn_exit ?_ | refine blk_here ?_ | refine blk_past rfl ?_ | refine thn_norm ?_ | refine blk_norm ?_ | refine CW.condT rfl ?_ | refine CW.condF rfl ?_ | (refine hK _ _ ?_; clear hK K))
    exact hJ (b.length - (k + 1)) _ _ (by omega) ⟨k + 1, l2, by omega, rfl, hl2, o8, h7.keep (c8.mono fun i _ ⟨a, ha, e⟩ => by rw [← e]; exact (o7.in_ ha).1.2), gW7.chgNew c8 (by rintro i hi ⟨a, ha, e⟩; have := (o7.in_ ha).1.1; omega), rep5 rfl rfl rfl rfl (congrArg (Value.int .i64) (by omega))⟩
  · obtain rfl : k = b.length := by omega
    repeat (first | refine WL.nil ?_ | refine WL.auto (h := ?_) | refine WL.gskip rfl rfl rfl rfl ?_ | refine WL.gauto (h := ?_) | (refine CW.seq ?_; intro K hK) | refine CW.block ?_ | refine CW.region ?_ | refine CW.skip ?_ | refine CW.exit ?_ | refine CW.ret ?_ | (refine thn_ret (K := K) ?_; clear hK K) | refine thn_ret ?_ | refine blk_ret ?_ | (refine thn_exit (K := K) ?_; clear hK K) | refine thn_exit ?_ | refine blk_here ?_ | refine blk_past rfl ?_ | refine thn_norm ?_ | refine blk_norm ?_ | refine CW.condT rfl ?_ | refine CW.condF rfl ?_ | (refine hK _ _ ?_; clear hK K))
    first | refine WL.step rfl ?_ | refine WL.gstep rfl rfl rfl rfl ?_
    refine OpW.call ((readOD h7 [102] hf6 (by omega)).mono ?_) rfl
    rintro v w8 ⟨g8, A8, c8, rfl, o8⟩
    rw [show (PD.read ⟨[⟨[102], b, b.length⟩, ⟨[103], b, 0⟩], false, 0⟩ [102]) = (b, 0) from rfl] at o8 ⊢
    simp only at o8
    have h8 := h7.grow g8
    have o8z : ∀ a, A8 = some a → a.block < w8.heap.size := fun a ha => (o8.in_ ha).2
    repeat (first | refine WL.nil ?_ | refine WL.auto (h := ?_) | refine WL.gskip rfl rfl rfl rfl ?_ | refine WL.gauto (h := ?_) | (refine CW.seq ?_; intro K hK) | refine CW.block ?_ | refine CW.region ?_ | refine CW.skip ?_ | refine CW.exit ?_ | refine CW.ret ?_ | (refine thn_ret (K := K) ?_; clear hK K) | refine thn_ret ?_ | refine blk_ret ?_ | (refine thn_exit (K := K) ?_; clear hK K) | refine thn_exit ?_ | refine blk_here ?_ | refine blk_past rfl ?_ | refine thn_norm ?_ | refine blk_norm ?_ | refine CW.condT rfl ?_ | refine CW.condF rfl ?_ | (refine hK _ _ ?_; clear hK K))
    first | refine WL.step rfl ?_ | refine WL.gstep rfl rfl rfl rfl ?_
    refine OpW.call ((readOD h8 [103] hf6 (by omega)).mono ?_) rfl
    rintro v w9 ⟨g9, A9, c9, rfl, o9⟩
    rw [show (PD.read ⟨[⟨[102], b, b.length⟩, ⟨[103], b, 0⟩], false, 0⟩ [103]) = (b, 0) from rfl] at o9 ⊢
    simp only at o9
    have h9 := h8.grow g9
    replace o8 := o8.grow g9
    repeat (first | refine WL.nil ?_ | refine WL.auto (h := ?_) | refine WL.gskip rfl rfl rfl rfl ?_ | refine WL.gauto (h := ?_) | (refine CW.seq ?_; intro K hK) | refine CW.block ?_ | refine CW.region ?_ | refine CW.skip ?_ | refine CW.exit ?_ | refine CW.ret ?_ | (refine thn_ret (K := K) ?_; clear hK K) | refine thn_ret ?_ | refine blk_ret ?_ | (refine thn_exit (K := K) ?_; clear hK K) | refine thn_exit ?_ | refine blk_here ?_ | refine blk_past rfl ?_ | refine thn_norm ?_ | refine blk_norm ?_ | refine CW.condT rfl ?_ | refine CW.condF rfl ?_ | (refine hK _ _ ?_; clear hK K))
    obtain ⟨tag, t1, ⟨FA, fcap, fs, t2⟩⟩ := h9
    have h9 : One (fun k => k < w4.heap.size) w9 db ⟨[⟨[102], b, b.length⟩, ⟨[103], b, 0⟩], false, 0⟩ := ⟨tag, t1, ⟨FA, fcap, fs, t2⟩⟩
    first | refine WL.step rfl ?_ | refine WL.gstep rfl rfl rfl rfl ?_
    refine OpW.call ((crash38 tag db FA fcap fs _ none 0 [] w9 t2 hf6.good.len (hf6.both (by omega)) (Sl.nil _ _) (by simp) (by simp)).mono ?_) rfl
    rintro v w10 ⟨g10, OA, oc, col, rfl, zo⟩
    have hz2 : (crashAll [⟨[102], b, b.length⟩, ⟨[103], b, 0⟩] []).1.length = 2 := by rw [crashAll_length]; rfl
    simp only at zo ⊢
    generalize (crashAll [⟨[102], b, b.length⟩, ⟨[103], b, 0⟩] []).1 = zs at *
    obtain ⟨z0, z1, rfl⟩ := len2 hz2
    obtain ⟨zn, zd⟩ := z0
    obtain ⟨cells, zc, ze⟩ := zo
    obtain ⟨DA, zp, zw⟩ := ze 0 (zn, zd) rfl
    simp only at zp zw
    have hzd := zw.cap_le
    unfold maxLen at hzd
    have zcell : cells[0 * 2 + 1]? = some (.slice DA zd.length zd.length) := part_get (c := 1) zp rfl
    have zlt := (List.getElem?_eq_some_iff.1 zcell).1
    have h10 := h7.more (g8.then (g9.then g10))
    have gW10 := gW7.then (g8.then (g9.then g10))
    replace o8 := o8.grow g10
    replace o9 := o9.grow g10
    have s8 := g8.size
    have s9 := g9.size
    have s10 := g10.size
    have s7 := gW7.size
    have s1 := g1.size
    have hs10 := hs.grow (g1.then gW10)
    have i8 : ∀ a, A8 = some a → w7.heap.size ≤ a.block ∧ a.block < w9.heap.size := fun a ha => ⟨(o8.in_ ha).1, by
      have := o8z a ha; omega⟩
    repeat (first | refine WL.nil ?_ | refine WL.auto (h := ?_) | refine WL.gskip rfl rfl rfl rfl ?_ | refine WL.gauto (h := ?_) | (refine CW.seq ?_; intro K hK) | refine CW.block ?_ | refine CW.region ?_ | refine CW.skip ?_ | refine CW.exit ?_ | refine CW.ret ?_ | (refine thn_ret (K := K) ?_; clear hK K) | refine thn_ret ?_ | refine blk_ret ?_ | (refine thn_exit (K := K) ?_; clear hK K) | refine thn_exit ?_ | refine blk_here ?_ | refine blk_past rfl ?_ | refine thn_norm ?_ | refine blk_norm ?_ | refine CW.condT rfl ?_ | refine CW.condF rfl ?_ | (refine hK _ _ ?_; clear hK K))
    first | refine WL.step rfl ?_ | refine WL.gstep rfl rfl rfl rfl ?_
    refine OpW.toStr rfl o8.sl rfl ?_
    repeat (first | refine WL.nil ?_ | refine WL.auto (h := ?_) | refine WL.gskip rfl rfl rfl rfl ?_ | refine WL.gauto (h := ?_) | (refine CW.seq ?_; intro K hK) | refine CW.block ?_ | refine CW.region ?_ | refine CW.skip ?_ | refine CW.exit ?_ | refine CW.ret ?_ | (refine thn_ret (K := K) ?_; clear hK K) | refine thn_ret ?_ | refine blk_ret ?_ | (refine thn_exit (K := K) ?_; clear hK K) | refine thn_exit ?_ | refine blk_here ?_ | refine blk_past rfl ?_ | refine thn_norm ?_ | refine blk_norm ?_ | refine CW.condT rfl ?_ | refine CW.condF rfl ?_ | (refine hK _ _ ?_; clear hK K))
    first | refine WL.step rfl ?_ | refine WL.gstep rfl rfl rfl rfl ?_
    refine OpW.toStr rfl hs10 rfl ?_
    repeat (first | refine WL.nil ?_ | refine WL.auto (h := ?_) | refine WL.gskip rfl rfl rfl rfl ?_ | refine WL.gauto (h := ?_) | (refine CW.seq ?_; intro K hK) | refine CW.block ?_ | refine CW.region ?_ | refine CW.skip ?_ | refine CW.exit ?_ | refine CW.ret ?_ | (refine thn_ret (K := K) ?_; clear hK K) | refine thn_ret ?_ | refine blk_ret ?_ | (refine thn_exit (K := K) ?_; clear hK K) | refine thn_exit ?_ | refine blk_here ?_ | refine blk_past rfl ?_ | refine thn_norm ?_ | refine blk_norm ?_ | refine CW.condT rfl ?_ | refine CW.condF rfl ?_ | (refine hK _ _ ?_; clear hK K))
    rw [show decide (¬ b = b) = false from by simp]
    repeat (first | refine WL.nil ?_ | refine WL.auto (h := ?_) | refine WL.gskip rfl rfl rfl rfl ?_ | refine WL.gauto (h := ?_) | (refine CW.seq ?_; intro K hK) | refine CW.block ?_ | refine CW.region ?_ | refine CW.skip ?_ | refine CW.exit ?_ | refine CW.ret ?_ | (refine thn_ret (K := K) ?_; clear hK K) | refine thn_ret ?_ | refine blk_ret ?_ | (refine thn_exit (K := K) ?_; clear hK K) | refine thn_exit ?_ | refine blk_here ?_ | refine blk_past rfl ?_ | refine thn_norm ?_ | refine blk_norm ?_ | refine CW.condT rfl ?_ | refine CW.condF rfl ?_ | (refine hK _ _ ?_; clear hK K))
    first | refine WL.step rfl ?_ | refine WL.gstep rfl rfl rfl rfl ?_
    refine OpW.toStr rfl o9.sl rfl ?_
    repeat (first | refine WL.nil ?_ | refine WL.auto (h := ?_) | refine WL.gskip rfl rfl rfl rfl ?_ | refine WL.gauto (h := ?_) | (refine CW.seq ?_; intro K hK) | refine CW.block ?_ | refine CW.region ?_ | refine CW.skip ?_ | refine CW.exit ?_ | refine CW.ret ?_ | (refine thn_ret (K := K) ?_; clear hK K) | refine thn_ret ?_ | refine blk_ret ?_ | (refine thn_exit (K := K) ?_; clear hK K) | refine thn_exit ?_ | refine blk_here ?_ | refine blk_past rfl ?_ | refine thn_norm ?_ | refine blk_norm ?_ | refine CW.condT rfl ?_ | refine CW.condF rfl ?_ | (refine hK _ _ ?_; clear hK K))
    first | refine WL.step rfl ?_ | refine WL.gstep rfl rfl rfl rfl ?_
    refine OpW.toStr rfl hs10 rfl ?_
    repeat (first | refine WL.nil ?_ | refine WL.auto (h := ?_) | refine WL.gskip rfl rfl rfl rfl ?_ | refine WL.gauto (h := ?_) | (refine CW.seq ?_; intro K hK) | refine CW.block ?_ | refine CW.region ?_ | refine CW.skip ?_ | refine CW.exit ?_ | refine CW.ret ?_ | (refine thn_ret (K := K) ?_; clear hK K) | refine thn_ret ?_ | refine blk_ret ?_ | (refine thn_exit (K := K) ?_; clear hK K) | refine thn_exit ?_ | refine blk_here ?_ | refine blk_past rfl ?_ | refine thn_norm ?_ | refine blk_norm ?_ | refine CW.condT rfl ?_ | refine CW.condF rfl ?_ | (refine hK _ _ ?_; clear hK K))
    rw [show decide (¬ b = b) = false from by simp]
    repeat (first | refine WL.nil ?_ | refine WL.auto (h := ?_) | refine WL.gskip rfl rfl rfl rfl ?_ | refine WL.gauto (h := ?_) | (refine CW.seq ?_; intro K hK) | refine CW.block ?_ | refine CW.region ?_ | refine CW.skip ?_ | refine CW.exit ?_ | refine CW.ret ?_ | (refine thn_ret (K := K) ?_; clear hK K) | refine thn_ret ?_ | refine blk_ret ?_ | (refine thn_exit (K := K) ?_; clear hK K) | refine thn_exit ?_ | refine blk_here ?_ | refine blk_past rfl ?_ | refine thn_norm ?_ | refine blk_norm ?_ | refine CW.condT rfl ?_ | refine CW.condF rfl ?_ | (refine hK _ _ ?_; clear hK K))
    refine CW.loop (fun n' e w11 => ∃ (k : Nat) (l' : List UInt8), k ≤ b.length ∧ n' = b.length - k ∧ l'.length = b.length ∧ Own w11 A8 5 1 b.length c8 (bvs l') (fresh w7) ∧ Chg (fun k => ∃ a, A8 = some a ∧ a.block = k) w10 w11 ∧
      ∃ e0, e = upd (upd (upd (upd (upd (upd e0 0 (.slice A b.length cap)) 4 (.pointer (some ⟨db, 0, none⟩))) 7 (.slice A8 b.length c8)) 11 (.slice OA 2 oc)) 85 (.int .i64 b.length)) 86 (.int .i64 k)) b.length ?_ ?_
    · exact ⟨0, b, by omega, rfl, rfl, o8, Chg.refl _ _, rep6 rfl rfl rfl rfl rfl rfl⟩
    clear o8
    rintro n' e w11 ⟨k, l', hk, rfl, hl', o8, k11, e0, rfl⟩ KJ2 hJ2
    repeat (first | refine WL.nil ?_ | refine WL.auto (h := ?_) | refine WL.gskip rfl rfl rfl rfl ?_ | refine WL.gauto (h := ?_) | (refine CW.seq ?_; intro K hK) | refine CW.block ?_ | refine CW.region ?_ | refine CW.skip ?_ | refine CW.exit ?_ | refine CW.ret ?_ | (refine thn_ret (K := K) ?_; clear hK K) | refine thn_ret ?_ | refine blk_ret ?_ | (refine thn_exit (K := K) ?_; clear hK K) | refine thn_exit ?_ | refine blk_here ?_ | refine blk_past rfl ?_ | refine thn_norm ?_ | refine blk_norm ?_ | refine CW.condT rfl ?_ | refine CW.condF rfl ?_ | (refine hK _ _ ?_; clear hK K))
    refine CW.condP rfl (fun hc2 => ?_) (fun hc2 => ?_)
    · have hkl : k < b.length := by omega
      have hkb : k < (bvs l').length := by rw [bvs_length]; omega
      have hcell : (bvs l')[k]? = some (bv (l'[k]'(by omega))) := by rw [bvs_get, List.getElem?_eq_getElem (by omega)]; rfl
      generalize l'[k]'(by omega) = c at *
      have hsl := o8.sl
      repeat (first | refine WL.nil ?_ | refine WL.auto (h := ?_) | refine WL.gskip rfl rfl rfl rfl ?_ | refine WL.gauto (h := ?_) | (refine CW.seq ?_; intro K hK) | refine CW.block ?_ | refine CW.region ?_ | refine CW.skip ?_ | refine CW.exit ?_ | refine CW.ret ?_ | (refine thn_ret (K := K) ?_; clear hK K) | refine thn_ret ?_ | refine blk_ret ?_ | (refine thn_exit (K := K) ?_; clear hK K) | refine thn_exit ?_ | refine blk_here ?_ | refine blk_past rfl ?_ | refine thn_norm ?_ | refine blk_norm ?_ | refine CW.condT rfl ?_ | refine CW.condF rfl ?_ | (refine hK _ _ ?_; clear hK K))
      first | refine WL.step rfl ?_ | refine WL.gstep rfl rfl rfl rfl ?_
      refine OpW.indexAddr k rfl rfl rfl hkl (sl_ne hsl hkb) (spot_own o8) ?_
      repeat (first | refine WL.nil ?_ | refine WL.auto (h := ?_) | refine WL.gskip rfl rfl rfl rfl ?_ | refine WL.gauto (h := ?_) | (refine CW.seq ?_; intro K hK) | refine CW.block ?_ | refine CW.region ?_ | refine CW.skip ?_ | refine CW.exit ?_ | refine CW.ret ?_ | (refine thn_ret (K := K) ?_; clear hK K) | refine thn_ret ?_ | refine blk_ret ?_ | (refine thn_exit (K := K) ?_; clear hK K) | refine thn_exit ?_ | refine blk_here ?_ | refine blk_past rfl ?_ | refine thn_norm ?_ | refine blk_norm ?_ | refine CW.condT rfl ?_ | refine CW.condF rfl ?_ | (refine hK _ _ ?_; clear hK K))
      first | refine WL.step rfl ?_ | refine WL.gstep rfl rfl rfl rfl ?_
      refine OpW.loadS (v := bv c) rfl hsl (by simpa using hcell) ?_
      repeat (first | refine WL.nil ?_ | refine WL.auto (h := ?_) | refine WL.gskip rfl rfl rfl rfl ?_ | refine WL.gauto (h := ?_) | (refine CW.seq ?_; intro K hK) | refine CW.block ?_ | refine CW.region ?_ | refine CW.skip ?_ | refine CW.exit ?_ | refine CW.ret ?_ | (refine thn_ret (K := K) ?_; clear hK K) | refine thn_ret ?_ | refine blk_ret ?_ | (refine thn_exit (K := K) ?_; clear hK K) | refine thn_exit ?_ | refine blk_here ?_ | refine blk_past rfl ?_ | refine thn_norm ?_ | refine blk_norm ?_ | refine CW.condT rfl ?_ | refine CW.condF rfl ?_ | (refine hK _ _ ?_; clear hK K))
      first | refine WL.step rfl ?_ | refine WL.gstep rfl rfl rfl rfl ?_
      refine OpW.xorByte 7 rfl rfl rfl ?_
      repeat (first | refine WL.nil ?_ | refine WL.auto (h := ?_) | refine WL.gskip rfl rfl rfl rfl ?_ | refine WL.gauto (h := ?_) | (refine CW.seq ?_; intro K hK) | refine CW.block ?_ | refine CW.region ?_ | refine CW.skip ?_ | refine CW.exit ?_ | refine CW.ret ?_ | (refine thn_ret (K := K) ?_; clear hK K) | refine thn_ret ?_ | refine blk_ret ?_ | (refine thn_exit (K := K) ?_; clear hK K) | refine thn_exit ?_ | refine blk_here ?_ | refine blk_past rfl ?_ | refine thn_norm ?_ | refine blk_norm ?_ | refine CW.condT rfl ?_ | refine CW.condF rfl ?_ | (refine hK _ _ ?_; clear hK K))
      first | refine WL.step rfl ?_ | refine WL.gstep rfl rfl rfl rfl ?_
      refine OpW.indexAddr k rfl rfl rfl hkl (sl_ne hsl hkb) (spot_own o8) ?_
      repeat (first | refine WL.nil ?_ | refine WL.auto (h := ?_) | refine WL.gskip rfl rfl rfl rfl ?_ | refine WL.gauto (h := ?_) | (refine CW.seq ?_; intro K hK) | refine CW.block ?_ | refine CW.region ?_ | refine CW.skip ?_ | refine CW.exit ?_ | refine CW.ret ?_ | (refine thn_ret (K := K) ?_; clear hK K) | refine thn_ret ?_ | refine blk_ret ?_ | (refine thn_exit (K := K) ?_; clear hK K) | refine thn_exit ?_ | refine blk_here ?_ | refine blk_past rfl ?_ | refine thn_norm ?_ | refine blk_norm ?_ | refine CW.condT rfl ?_ | refine CW.condF rfl ?_ | (refine hK _ _ ?_; clear hK K))
      refine WL.step0 ?_
      refine OpW.storeOwn (v := bv (c ^^^ 7)) rfl rfl rfl o8 hkl ?_
      intro w12 o12 c12 _
      obtain ⟨l2, hl2, e2⟩ := bvs_upd (i := k) (c := c ^^^ 7) hl'
      rw [e2] at o12
      repeat (first | refine WL.nil ?_ | refine WL.auto (h := ?_) | refine WL.gskip rfl rfl rfl rfl ?_ | refine WL.gauto (h := ?_) | (refine CW.seq ?_; intro K hK) | refine CW.block ?_ | refine CW.region ?_ | refine CW.skip ?_ | refine CW.exit ?_ | refine CW.ret ?_ | (refine thn_ret (K := K) ?_; clear hK K) | refine thn_ret ?_ | refine blk_ret ?_ | (refine thn_exit (K := K) ?_; clear hK K) | refine thn_exit ?_ | refine blk_here ?_ | refine blk_past rfl ?_ | refine thn_norm ?_ | refine blk_norm ?_ | refine CW.condT rfl ?_ | refine CW.condF rfl ?_ | (refine hK _ _ ?_; clear hK K))
      exact hJ2 (b.length - (k + 1)) _ _ (by omega) ⟨k + 1, l2, by omega, rfl, hl2, o12, k11.andThen c12, rep6 rfl rfl rfl rfl rfl (congrArg (Value.int .i64) (by omega))⟩
    · obtain rfl : k = b.length := by omega
      have h11 := h10.keep (k11.mono fun i _ ⟨a, ha, e⟩ => by rw [← e]; have := i8 a ha; exact Or.inr ⟨by omega, by omega⟩)
      have gW11 : Grow w1 w11 := gW10.chgNew k11 (by rintro i hi ⟨a, ha, e⟩; have := i8 a ha; omega)
      have zc11 := zc.keep k11 (by rintro i hi ⟨a, ha, e⟩; have := i8 a ha; have := hi.1; omega)
      have zw11 := zw.keep k11 (by rintro i hi ⟨a, ha, e⟩; have := i8 a ha; have := hi.1; omega)
      repeat (first | refine WL.nil ?_ | refine WL.auto (h := ?_) | refine WL.gskip rfl rfl rfl rfl ?_ | refine WL.gauto (h := ?_) | (refine CW.seq ?_; intro K hK) | refine CW.block ?_ | refine CW.region ?_ | refine CW.skip ?_ | refine CW.exit ?_ | refine CW.ret ?_ | (refine thn_ret (K := K) ?_; clear hK K) | refine thn_ret ?_ | refine blk_ret ?_ | (refine thn_exit (K := K) ?_; clear hK K) | refine thn_exit ?_ | refine blk_here ?_ | refine blk_past rfl ?_ | refine thn_norm ?_ | refine blk_norm ?_ | refine CW.condT rfl ?_ | refine CW.condF rfl ?_ | (refine hK _ _ ?_; clear hK K))
      first | refine WL.step rfl ?_ | refine WL.gstep rfl rfl rfl rfl ?_
      refine OpW.buildLit [bv 1, bv 2, bv 3] rfl rfl rfl (lit1 _ rfl) ?_
      intro b12 w12 n12
      repeat (first | refine WL.nil ?_ | refine WL.auto (h := ?_) | refine WL.gskip rfl rfl rfl rfl ?_ | refine WL.gauto (h := ?_) | (refine CW.seq ?_; intro K hK) | refine CW.block ?_ | refine CW.region ?_ | refine CW.skip ?_ | refine CW.exit ?_ | refine CW.ret ?_ | (refine thn_ret (K := K) ?_; clear hK K) | refine thn_ret ?_ | refine blk_ret ?_ | (refine thn_exit (K := K) ?_; clear hK K) | refine thn_exit ?_ | refine blk_here ?_ | refine blk_past rfl ?_ | refine thn_norm ?_ | refine blk_norm ?_ | refine CW.condT rfl ?_ | refine CW.condF rfl ?_ | (refine hK _ _ ?_; clear hK K))
      first | refine WL.step rfl ?_ | refine WL.gstep rfl rfl rfl rfl ?_
      refine OpW.append (ys := [bv 1, bv 2, bv 3]) rfl rfl rfl (o8.grow n12.grow) (blk_sl_lit n12) rfl (one1 _ rfl) ⟨by omega, by omega⟩ (fun A13 c13 w13 o13 c13' _ => ?_)
      have k13 : Chg (fun k => ∃ a, A8 = some a ∧ a.block = k) w11 w13 := Grow.chg n12.grow c13'
      have h13 := h11.keep (k13.mono fun i _ ⟨a, ha, e⟩ => by rw [← e]; have := i8 a ha; exact Or.inr ⟨by omega, by omega⟩)
      have gW13 : Grow w1 w13 := gW11.chgNew k13 (by rintro i hi ⟨a, ha, e⟩; have := i8 a ha; omega)
      have zc13 := zc11.keep k13 (by rintro i hi ⟨a, ha, e⟩; have := i8 a ha; have := hi.1; omega)
      have zw13 := zw11.keep k13 (by rintro i hi ⟨a, ha, e⟩; have := i8 a ha; have := hi.1; omega)
      have zs13 := zc13.sl
      have zne := sl_ne zs13 zlt
      repeat (first | refine WL.nil ?_ | refine WL.auto (h := ?_) | refine WL.gskip rfl rfl rfl rfl ?_ | refine WL.gauto (h := ?_) | (refine CW.seq ?_; intro K hK) | refine CW.block ?_ | refine CW.region ?_ | refine CW.skip ?_ | refine CW.exit ?_ | refine CW.ret ?_ | (refine thn_ret (K := K) ?_; clear hK K) | refine thn_ret ?_ | refine blk_ret ?_ | (refine thn_exit (K := K) ?_; clear hK K) | refine thn_exit ?_ | refine blk_here ?_ | refine blk_past rfl ?_ | refine thn_norm ?_ | refine blk_norm ?_ | refine CW.condT rfl ?_ | refine CW.condF rfl ?_ | (refine hK _ _ ?_; clear hK K))
      first | refine WL.step rfl ?_ | refine WL.gstep rfl rfl rfl rfl ?_
      refine OpW.indexAddr 0 rfl rfl rfl (by simp) (sl_ne zs13 zlt) (spot_own zc13) ?_
      repeat (first | refine WL.nil ?_ | refine WL.auto (h := ?_) | refine WL.gskip rfl rfl rfl rfl ?_ | refine WL.gauto (h := ?_) | (refine CW.seq ?_; intro K hK) | refine CW.block ?_ | refine CW.region ?_ | refine CW.skip ?_ | refine CW.exit ?_ | refine CW.ret ?_ | (refine thn_ret (K := K) ?_; clear hK K) | refine thn_ret ?_ | refine blk_ret ?_ | (refine thn_exit (K := K) ?_; clear hK K) | refine thn_exit ?_ | refine blk_here ?_ | refine blk_past rfl ?_ | refine thn_norm ?_ | refine blk_norm ?_ | refine CW.condT rfl ?_ | refine CW.condF rfl ?_ | (refine hK _ _ ?_; clear hK K))
      refine CW.loop (fun n' e w14 => ∃ (k : Nat) (l' : List UInt8), k ≤ zd.length ∧ n' = zd.length - k ∧ l'.length = zd.length ∧ Own w14 DA 5 1 zd.length zd.length (bvs l') (fun b => w9.heap.size ≤ b ∧ col b = false) ∧ Chg (fun k => ∃ a, DA = some a ∧ a.block = k) w13 w14 ∧
        ∃ e0, e = upd (upd (upd (upd (upd (upd e0 0 (.slice A b.length cap)) 4 (.pointer (some ⟨db, 0, none⟩))) 7 (.slice A13 (b.length + 3) c13)) 11 (.slice OA 2 oc)) 103 (.int .i64 zd.length)) 104 (.int .i64 k)) zd.length ?_ ?_
      · exact ⟨0, zd, by omega, rfl, rfl, zw13, Chg.refl _ _, rep6 rfl rfl rfl rfl rfl rfl⟩
      clear o8
      rintro n' e w14 ⟨k, l', hk, rfl, hl', o8, k14, e0, rfl⟩ KJ3 hJ3
      have dz : ∀ a, DA = some a → w9.heap.size ≤ a.block ∧ col a.block = false := fun a ha => (zw.in_ ha).1
      have dlt : ∀ a, DA = some a → a.block < w10.heap.size := fun a ha => (zw.in_ ha).2
      have zc14 := zc13.keep k14 (by rintro i hi ⟨a, ha, e⟩; have h1 := dz a ha; rw [e, hi.2] at h1; cases h1.2)
      have zs14 := zc14.sl
      repeat (first | refine WL.nil ?_ | refine WL.auto (h := ?_) | refine WL.gskip rfl rfl rfl rfl ?_ | refine WL.gauto (h := ?_) | (refine CW.seq ?_; intro K hK) | refine CW.block ?_ | refine CW.region ?_ | refine CW.skip ?_ | refine CW.exit ?_ | refine CW.ret ?_ | (refine thn_ret (K := K) ?_; clear hK K) | refine thn_ret ?_ | refine blk_ret ?_ | (refine thn_exit (K := K) ?_; clear hK K) | refine thn_exit ?_ | refine blk_here ?_ | refine blk_past rfl ?_ | refine thn_norm ?_ | refine blk_norm ?_ | refine CW.condT rfl ?_ | refine CW.condF rfl ?_ | (refine hK _ _ ?_; clear hK K))
      refine CW.condP rfl (fun hc3 => ?_) (fun hc3 => ?_)
      · have hkl : k < zd.length := by omega
        have hkb : k < (bvs l').length := by rw [bvs_length]; omega
        have hcell : (bvs l')[k]? = some (bv (l'[k]'(by omega))) := by rw [bvs_get, List.getElem?_eq_getElem (by omega)]; rfl
        generalize l'[k]'(by omega) = c at *
        have hsl := o8.sl
        repeat (first | refine WL.nil ?_ | refine WL.auto (h := ?_) | refine WL.gskip rfl rfl rfl rfl ?_ | refine WL.gauto (h := ?_) | (refine CW.seq ?_; intro K hK) | refine CW.block ?_ | refine CW.region ?_ | refine CW.skip ?_ | refine CW.exit ?_ | refine CW.ret ?_ | (refine thn_ret (K := K) ?_; clear hK K) | refine thn_ret ?_ | refine blk_ret ?_ | (refine thn_exit (K := K) ?_; clear hK K) | refine thn_exit ?_ | refine blk_here ?_ | refine blk_past rfl ?_ | refine thn_norm ?_ | refine blk_norm ?_ | refine CW.condT rfl ?_ | refine CW.condF rfl ?_ | (refine hK _ _ ?_; clear hK K))
        first | refine WL.step rfl ?_ | refine WL.gstep rfl rfl rfl rfl ?_
        refine OpW.indexAddr 0 rfl rfl rfl (by simp) (sl_ne zs14 zlt) (spot_own zc14) ?_
        repeat (first | refine WL.nil ?_ | refine WL.auto (h := ?_) | refine WL.gskip rfl rfl rfl rfl ?_ | refine WL.gauto (h := ?_) | (refine CW.seq ?_; intro K hK) | refine CW.block ?_ | refine CW.region ?_ | refine CW.skip ?_ | refine CW.exit ?_ | refine CW.ret ?_ | (refine thn_ret (K := K) ?_; clear hK K) | refine thn_ret ?_ | refine blk_ret ?_ | (refine thn_exit (K := K) ?_; clear hK K) | refine thn_exit ?_ | refine blk_here ?_ | refine blk_past rfl ?_ | refine thn_norm ?_ | refine blk_norm ?_ | refine CW.condT rfl ?_ | refine CW.condF rfl ?_ | (refine hK _ _ ?_; clear hK K))
        first | refine WL.step rfl ?_ | refine WL.gstep rfl rfl rfl rfl ?_
        refine OpW.indexAddr k rfl rfl rfl hkl (sl_ne hsl hkb) (spot_own o8) ?_
        repeat (first | refine WL.nil ?_ | refine WL.auto (h := ?_) | refine WL.gskip rfl rfl rfl rfl ?_ | refine WL.gauto (h := ?_) | (refine CW.seq ?_; intro K hK) | refine CW.block ?_ | refine CW.region ?_ | refine CW.skip ?_ | refine CW.exit ?_ | refine CW.ret ?_ | (refine thn_ret (K := K) ?_; clear hK K) | refine thn_ret ?_ | refine blk_ret ?_ | (refine thn_exit (K := K) ?_; clear hK K) | refine thn_exit ?_ | refine blk_here ?_ | refine blk_past rfl ?_ | refine thn_norm ?_ | refine blk_norm ?_ | refine CW.condT rfl ?_ | refine CW.condF rfl ?_ | (refine hK _ _ ?_; clear hK K))
        first | refine WL.step rfl ?_ | refine WL.gstep rfl rfl rfl rfl ?_
        refine OpW.loadS (v := bv c) rfl hsl (by simpa using hcell) ?_
        repeat (first | refine WL.nil ?_ | refine WL.auto (h := ?_) | refine WL.gskip rfl rfl rfl rfl ?_ | refine WL.gauto (h := ?_) | (refine CW.seq ?_; intro K hK) | refine CW.block ?_ | refine CW.region ?_ | refine CW.skip ?_ | refine CW.exit ?_ | refine CW.ret ?_ | (refine thn_ret (K := K) ?_; clear hK K) | refine thn_ret ?_ | refine blk_ret ?_ | (refine thn_exit (K := K) ?_; clear hK K) | refine thn_exit ?_ | refine blk_here ?_ | refine blk_past rfl ?_ | refine thn_norm ?_ | refine blk_norm ?_ | refine CW.condT rfl ?_ | refine CW.condF rfl ?_ | (refine hK _ _ ?_; clear hK K))
        first | refine WL.step rfl ?_ | refine WL.gstep rfl rfl rfl rfl ?_
        refine OpW.xorByte 9 rfl rfl rfl ?_
        repeat (first | refine WL.nil ?_ | refine WL.auto (h := ?_) | refine WL.gskip rfl rfl rfl rfl ?_ | refine WL.gauto (h := ?_) | (refine CW.seq ?_; intro K hK) | refine CW.block ?_ | refine CW.region ?_ | refine CW.skip ?_ | refine CW.exit ?_ | refine CW.ret ?_ | (refine thn_ret (K := K) ?_; clear hK K) | refine thn_ret ?_ | refine blk_ret ?_ | (refine thn_exit (K := K) ?_; clear hK K) | refine thn_exit ?_ | refine blk_here ?_ | refine blk_past rfl ?_ | refine thn_norm ?_ | refine blk_norm ?_ | refine CW.condT rfl ?_ | refine CW.condF rfl ?_ | (refine hK _ _ ?_; clear hK K))
        first | refine WL.step rfl ?_ | refine WL.gstep rfl rfl rfl rfl ?_
        refine OpW.indexAddr k rfl rfl rfl hkl (sl_ne hsl hkb) (spot_own o8) ?_
        repeat (first | refine WL.nil ?_ | refine WL.auto (h := ?_) | refine WL.gskip rfl rfl rfl rfl ?_ | refine WL.gauto (h := ?_) | (refine CW.seq ?_; intro K hK) | refine CW.block ?_ | refine CW.region ?_ | refine CW.skip ?_ | refine CW.exit ?_ | refine CW.ret ?_ | (refine thn_ret (K := K) ?_; clear hK K) | refine thn_ret ?_ | refine blk_ret ?_ | (refine thn_exit (K := K) ?_; clear hK K) | refine thn_exit ?_ | refine blk_here ?_ | refine blk_past rfl ?_ | refine thn_norm ?_ | refine blk_norm ?_ | refine CW.condT rfl ?_ | refine CW.condF rfl ?_ | (refine hK _ _ ?_; clear hK K))
        refine WL.step0 ?_
        refine OpW.storeOwn (v := bv (c ^^^ 9)) rfl rfl rfl o8 hkl ?_
        intro w15 o15 c15 _
        obtain ⟨l2, hl2, e2⟩ := bvs_upd (i := k) (c := c ^^^ 9) hl'
        rw [e2] at o15
        repeat (first | refine WL.nil ?_ | refine WL.auto (h := ?_) | refine WL.gskip rfl rfl rfl rfl ?_ | refine WL.gauto (h := ?_) | (refine CW.seq ?_; intro K hK) | refine CW.block ?_ | refine CW.region ?_ | refine CW.skip ?_ | refine CW.exit ?_ | refine CW.ret ?_ | (refine thn_ret (K := K) ?_; clear hK K) | refine thn_ret ?_ | refine blk_ret ?_ | (refine thn_exit (K := K) ?_; clear hK K) | refine thn_exit ?_ | refine blk_here ?_ | refine blk_past rfl ?_ | refine thn_norm ?_ | refine blk_norm ?_ | refine CW.condT rfl ?_ | refine CW.condF rfl ?_ | (refine hK _ _ ?_; clear hK K))
        exact hJ3 (zd.length - (k + 1)) _ _ (by omega) ⟨k + 1, l2, by omega, rfl, hl2, o15, k14.andThen c15, rep6 rfl rfl rfl rfl rfl (congrArg (Value.int .i64) (by omega))⟩
      · obtain rfl : k = zd.length := by omega
        have h14 := h13.keep (k14.mono fun i _ ⟨a, ha, e⟩ => by rw [← e]; have := dz a ha; have := dlt a ha; exact Or.inr ⟨by omega, by omega⟩)
        have gW14 : Grow w1 w14 := gW13.chgNew k14 (by rintro i hi ⟨a, ha, e⟩; have := dz a ha; omega)
        repeat (first | refine WL.nil ?_ | refine WL.auto (h := ?_) | refine WL.gskip rfl rfl rfl rfl ?_ | refine WL.gauto (h := ?_) | (refine CW.seq ?_; intro K hK) | refine CW.block ?_ | refine CW.region ?_ | refine CW.skip ?_ | refine CW.exit ?_ | refine CW.ret ?_ | (refine thn_ret (K := K) ?_; clear hK K) | refine thn_ret ?_ | refine blk_ret ?_ | (refine thn_exit (K := K) ?_; clear hK K) | refine thn_exit ?_ | refine blk_here ?_ | refine blk_past rfl ?_ | refine thn_norm ?_ | refine blk_norm ?_ | refine CW.condT rfl ?_ | refine CW.condF rfl ?_ | (refine hK _ _ ?_; clear hK K))
        first | refine WL.step rfl ?_ | refine WL.gstep rfl rfl rfl rfl ?_
        refine OpW.call ((readOD h14 [102] hf6 (by omega)).mono ?_) rfl
        rintro v w15 ⟨g15, A15, c15, rfl, o15⟩
        rw [show (PD.read ⟨[⟨[102], b, b.length⟩, ⟨[103], b, 0⟩], false, 0⟩ [102]) = (b, 0) from rfl] at o15 ⊢
        simp only at o15
        repeat (first | refine WL.nil ?_ | refine WL.auto (h := ?_) | refine WL.gskip rfl rfl rfl rfl ?_ | refine WL.gauto (h := ?_) | (refine CW.seq ?_; intro K hK) | refine CW.block ?_ | refine CW.region ?_ | refine CW.skip ?_ | refine CW.exit ?_ | refine CW.ret ?_ | (refine thn_ret (K := K) ?_; clear hK K) | refine thn_ret ?_ | refine blk_ret ?_ | (refine thn_exit (K := K) ?_; clear hK K) | refine thn_exit ?_ | refine blk_here ?_ | refine blk_past rfl ?_ | refine thn_norm ?_ | refine blk_norm ?_ | refine CW.condT rfl ?_ | refine CW.condF rfl ?_ | (refine hK _ _ ?_; clear hK K))
        first | refine WL.step rfl ?_ | refine WL.gstep rfl rfl rfl rfl ?_
        refine OpW.call ((readNil [102] _).mono ?_) rfl
        rintro v w16 ⟨rfl, g16⟩
        replace o15 := o15.grow g16
        have gW16 := gW14.then (g15.then g16)
        repeat (first | refine WL.nil ?_ | refine WL.auto (h := ?_) | refine WL.gskip rfl rfl rfl rfl ?_ | refine WL.gauto (h := ?_) | (refine CW.seq ?_; intro K hK) | refine CW.block ?_ | refine CW.region ?_ | refine CW.skip ?_ | refine CW.exit ?_ | refine CW.ret ?_ | (refine thn_ret (K := K) ?_; clear hK K) | refine thn_ret ?_ | refine blk_ret ?_ | (refine thn_exit (K := K) ?_; clear hK K) | refine thn_exit ?_ | refine blk_here ?_ | refine blk_past rfl ?_ | refine thn_norm ?_ | refine blk_norm ?_ | refine CW.condT rfl ?_ | refine CW.condF rfl ?_ | (refine hK _ _ ?_; clear hK K))
        first | refine WL.step rfl ?_ | refine WL.gstep rfl rfl rfl rfl ?_
        refine OpW.toStr rfl o15.sl rfl ?_
        repeat (first | refine WL.nil ?_ | refine WL.auto (h := ?_) | refine WL.gskip rfl rfl rfl rfl ?_ | refine WL.gauto (h := ?_) | (refine CW.seq ?_; intro K hK) | refine CW.block ?_ | refine CW.region ?_ | refine CW.skip ?_ | refine CW.exit ?_ | refine CW.ret ?_ | (refine thn_ret (K := K) ?_; clear hK K) | refine thn_ret ?_ | refine blk_ret ?_ | (refine thn_exit (K := K) ?_; clear hK K) | refine thn_exit ?_ | refine blk_here ?_ | refine blk_past rfl ?_ | refine thn_norm ?_ | refine blk_norm ?_ | refine CW.condT rfl ?_ | refine CW.condF rfl ?_ | (refine hK _ _ ?_; clear hK K))
        first | refine WL.step rfl ?_ | refine WL.gstep rfl rfl rfl rfl ?_
        refine OpW.toStr rfl (hs.grow (g1.then gW16)) rfl ?_
        repeat (first | refine WL.nil ?_ | refine WL.auto (h := ?_) | refine WL.gskip rfl rfl rfl rfl ?_ | refine WL.gauto (h := ?_) | (refine CW.seq ?_; intro K hK) | refine CW.block ?_ | refine CW.region ?_ | refine CW.skip ?_ | refine CW.exit ?_ | refine CW.ret ?_ | (refine thn_ret (K := K) ?_; clear hK K) | refine thn_ret ?_ | refine blk_ret ?_ | (refine thn_exit (K := K) ?_; clear hK K) | refine thn_exit ?_ | refine blk_here ?_ | refine blk_past rfl ?_ | refine thn_norm ?_ | refine blk_norm ?_ | refine CW.condT rfl ?_ | refine CW.condF rfl ?_ | (refine hK _ _ ?_; clear hK K))
        rw [decide_eq_true (p := b = b) rfl]
        repeat (first | refine WL.nil ?_ | refine WL.auto (h := ?_) | refine WL.gskip rfl rfl rfl rfl ?_ | refine WL.gauto (h := ?_) | (refine CW.seq ?_; intro K hK) | refine CW.block ?_ | refine CW.region ?_ | refine CW.skip ?_ | refine CW.exit ?_ | refine CW.ret ?_ | (refine thn_ret (K := K) ?_; clear hK K) | refine thn_ret ?_ | refine blk_ret ?_ | (refine thn_exit (K := K) ?_; clear hK K) | refine thn_exit ?_ | refine blk_here ?_ | refine blk_past rfl ?_ | refine thn_norm ?_ | refine blk_norm ?_ | refine CW.condT rfl ?_ | refine CW.condF rfl ?_ | (refine hK _ _ ?_; clear hK K))
        rw [decide_eq_true (p := ((b.length + 3 : Nat) : Int) = (b.length : Int) + 3) (by omega)]
        repeat (first | refine WL.nil ?_ | refine WL.auto (h := ?_) | refine WL.gskip rfl rfl rfl rfl ?_ | refine WL.gauto (h := ?_) | (refine CW.seq ?_; intro K hK) | refine CW.block ?_ | refine CW.region ?_ | refine CW.skip ?_ | refine CW.exit ?_ | refine CW.ret ?_ | (refine thn_ret (K := K) ?_; clear hK K) | refine thn_ret ?_ | refine blk_ret ?_ | (refine thn_exit (K := K) ?_; clear hK K) | refine thn_exit ?_ | refine blk_here ?_ | refine blk_past rfl ?_ | refine thn_norm ?_ | refine blk_norm ?_ | refine CW.condT rfl ?_ | refine CW.condF rfl ?_ | (refine hK _ _ ?_; clear hK K))
        first | refine WL.step rfl ?_ | refine WL.gstep rfl rfl rfl rfl ?_
        refine OpW.call ((appendNil [102] _ _).mono ?_) rfl
        rintro v w17 ⟨rfl, g17⟩
        repeat (first | refine WL.nil ?_ | refine WL.auto (h := ?_) | refine WL.gskip rfl rfl rfl rfl ?_ | refine WL.gauto (h := ?_) | (refine CW.seq ?_; intro K hK) | refine CW.block ?_ | refine CW.region ?_ | refine CW.skip ?_ | refine CW.exit ?_ | refine CW.ret ?_ | (refine thn_ret (K := K) ?_; clear hK K) | refine thn_ret ?_ | refine blk_ret ?_ | (refine thn_exit (K := K) ?_; clear hK K) | refine thn_exit ?_ | refine blk_here ?_ | refine blk_past rfl ?_ | refine thn_norm ?_ | refine blk_norm ?_ | refine CW.condT rfl ?_ | refine CW.condF rfl ?_ | (refine hK _ _ ?_; clear hK K))
        first | refine WL.step rfl ?_ | refine WL.gstep rfl rfl rfl rfl ?_
        refine OpW.call ((syncNil [102] _).mono ?_) rfl
        rintro v w18 ⟨rfl, g18⟩
        repeat (first | refine WL.nil ?_ | refine WL.auto (h := ?_) | refine WL.gskip rfl rfl rfl rfl ?_ | refine WL.gauto (h := ?_) | (refine CW.seq ?_; intro K hK) | refine CW.block ?_ | refine CW.region ?_ | refine CW.skip ?_ | refine CW.exit ?_ | refine CW.ret ?_ | (refine thn_ret (K := K) ?_; clear hK K) | refine thn_ret ?_ | refine blk_ret ?_ | (refine thn_exit (K := K) ?_; clear hK K) | refine thn_exit ?_ | refine blk_here ?_ | refine blk_past rfl ?_ | refine thn_norm ?_ | refine blk_norm ?_ | refine CW.condT rfl ?_ | refine CW.condF rfl ?_ | (refine hK _ _ ?_; clear hK K))
        first | refine WL.step rfl ?_ | refine WL.gstep rfl rfl rfl rfl ?_
        refine OpW.call ((truncateNil [102] 0 _).mono ?_) rfl
        rintro v w19 ⟨rfl, g19⟩
        repeat (first | refine WL.nil ?_ | refine WL.auto (h := ?_) | refine WL.gskip rfl rfl rfl rfl ?_ | refine WL.gauto (h := ?_) | (refine CW.seq ?_; intro K hK) | refine CW.block ?_ | refine CW.region ?_ | refine CW.skip ?_ | refine CW.exit ?_ | refine CW.ret ?_ | (refine thn_ret (K := K) ?_; clear hK K) | refine thn_ret ?_ | refine blk_ret ?_ | (refine thn_exit (K := K) ?_; clear hK K) | refine thn_exit ?_ | refine blk_here ?_ | refine blk_past rfl ?_ | refine thn_norm ?_ | refine blk_norm ?_ | refine CW.condT rfl ?_ | refine CW.condF rfl ?_ | (refine hK _ _ ?_; clear hK K))
        first | refine WL.step rfl ?_ | refine WL.gstep rfl rfl rfl rfl ?_
        refine OpW.call ((downNil _).mono ?_) rfl
        rintro v w20 ⟨rfl, g20⟩
        repeat (first | refine WL.nil ?_ | refine WL.auto (h := ?_) | refine WL.gskip rfl rfl rfl rfl ?_ | refine WL.gauto (h := ?_) | (refine CW.seq ?_; intro K hK) | refine CW.block ?_ | refine CW.region ?_ | refine CW.skip ?_ | refine CW.exit ?_ | refine CW.ret ?_ | (refine thn_ret (K := K) ?_; clear hK K) | refine thn_ret ?_ | refine blk_ret ?_ | (refine thn_exit (K := K) ?_; clear hK K) | refine thn_exit ?_ | refine blk_here ?_ | refine blk_past rfl ?_ | refine thn_norm ?_ | refine blk_norm ?_ | refine CW.condT rfl ?_ | refine CW.condF rfl ?_ | (refine hK _ _ ?_; clear hK K))
        first | refine WL.step rfl ?_ | refine WL.gstep rfl rfl rfl rfl ?_
        refine OpW.call ((waitingNil _).mono ?_) rfl
        rintro v w21 ⟨rfl, g21⟩
        repeat (first | refine WL.nil ?_ | refine WL.auto (h := ?_) | refine WL.gskip rfl rfl rfl rfl ?_ | refine WL.gauto (h := ?_) | (refine CW.seq ?_; intro K hK) | refine CW.block ?_ | refine CW.region ?_ | refine CW.skip ?_ | refine CW.exit ?_ | refine CW.ret ?_ | (refine thn_ret (K := K) ?_; clear hK K) | refine thn_ret ?_ | refine blk_ret ?_ | (refine thn_exit (K := K) ?_; clear hK K) | refine thn_exit ?_ | refine blk_here ?_ | refine blk_past rfl ?_ | refine thn_norm ?_ | refine blk_norm ?_ | refine CW.condT rfl ?_ | refine CW.condF rfl ?_ | (refine hK _ _ ?_; clear hK K))
        first | refine WL.step rfl ?_ | refine WL.gstep rfl rfl rfl rfl ?_
        refine OpW.call ((crashNil _ _).mono ?_) rfl
        rintro v w22 ⟨rfl, g22⟩
        repeat (first | refine WL.nil ?_ | refine WL.auto (h := ?_) | refine WL.gskip rfl rfl rfl rfl ?_ | refine WL.gauto (h := ?_) | (refine CW.seq ?_; intro K hK) | refine CW.block ?_ | refine CW.region ?_ | refine CW.skip ?_ | refine CW.exit ?_ | refine CW.ret ?_ | (refine thn_ret (K := K) ?_; clear hK K) | refine thn_ret ?_ | refine blk_ret ?_ | (refine thn_exit (K := K) ?_; clear hK K) | refine thn_exit ?_ | refine blk_here ?_ | refine blk_past rfl ?_ | refine thn_norm ?_ | refine blk_norm ?_ | refine CW.condT rfl ?_ | refine CW.condF rfl ?_ | (refine hK _ _ ?_; clear hK K))
        exact out1 (v := .bool true) Try.results13 rfl ⟨rfl, g1.then (gW16.then (g17.then (g18.then (g19.then (g20.then (g21.then g22))))))⟩ (Or.inr rfl)
end B
end Go.Proofs.Ytlofcomnhecgfaa
