/- Waiting of a disk. Sizes are bounded. -/
import Derived.Test.YtlofcomnhecgfaaDiskD
namespace Go.Proofs.Ytlofcomnhecgfaa
namespace B
attribute [local irreducible] OpW WL CW Ret Sl Blk thn blk outOf
set_option linter.unusedVariables false
set_option linter.unusedSimpArgs false
set_option maxRecDepth 4000

def waitOf (l : List PF) : Int := (l.map fun f => (f.data.length : Int) - (f.safe : Int)).sum
theorem waitOf_snoc {l : List PF} {k : Nat} (h : k < l.length) : waitOf (l.take (k + 1)) = waitOf (l.take k) + ((l[k].data.length : Int) - (l[k].safe : Int)) := by
  rw [List.take_succ_eq_append_getElem h]
  simp only [waitOf, List.map_append, List.sum_append, List.map_cons, List.map_nil, List.sum_cons, List.sum_nil, Int.add_zero]
theorem waitOf_le {l : List PF} (h : ∀ f ∈ l, f.data.length ≤ 1099511627776 ∧ f.safe ≤ f.data.length) : 0 ≤ waitOf l ∧ waitOf l ≤ 1099511627776 * (l.length : Int) := by
  induction l with
  | nil => simp [waitOf]
  | cons f l ih =>
    have h1 := h f (List.mem_cons_self ..)
    have h2 := ih fun g hg => h g (List.mem_cons_of_mem _ hg)
    simp only [waitOf, List.map_cons, List.sum_cons, List.length_cons] at h2 ⊢
    omega
theorem waiting40 (tag : Nat → Tag) (db : Nat) (FA : Option Addr) (fcap : Nat) (fs : List Nat) (d : PD) (w : World) (h : DiskAt tag w db FA fcap fs d) (hn : d.files.length ≤ 16) (hd : ∀ f ∈ d.files, f.data.length ≤ 1099511627776 ∧ f.safe ≤ f.data.length) :
    Ret Try.prog 40 #[.pointer (some ⟨db, 0, none⟩)] w fun v w' => Grow w w' ∧ v = .int .i64 (waitOf d.files) := by
  have hb := h.blk
  refine Ret.enter (fn := Try.f40) (N := 31) Try.func40 rfl Try.ntmps40 rfl ?_
  repeat (first | refine WL.nil ?_ | refine WL.auto (h := ?_) | refine WL.gskip rfl rfl rfl rfl ?_ | refine WL.gauto (h := ?_) | (refine CW.seq ?_; intro K hK) | refine CW.block ?_ | refine CW.region ?_ | refine CW.skip ?_ | refine CW.exit ?_ | refine CW.ret ?_ | (refine thn_ret (K := K) ?_; clear hK K) | refine thn_ret ?_ | refine blk_ret ?_ | (refine thn_exit (K := K) ?_; clear hK K) | refine thn_exit ?_ | refine blk_here ?_ | refine blk_past rfl ?_ | refine thn_norm ?_ | refine blk_norm ?_ | refine CW.condT rfl ?_ | refine CW.condF rfl ?_ | (refine hK _ _ ?_; clear hK K))
  refine CW.loop (fun n' e w2 => ∃ k, k ≤ d.files.length ∧ n' = d.files.length - k ∧ Grow w w2 ∧ ∃ e0, e = upd (upd (upd (upd e0 3 (.int .i64 (waitOf (d.files.take k)))) 11 (.slice FA d.files.length fcap)) 12 (.int .i64 d.files.length)) 13 (.int .i64 k)) d.files.length ?_ ?_
  · exact ⟨0, by omega, rfl, Chg.refl _ _, rep4 rfl rfl rfl rfl⟩
  rintro n' e w2 ⟨k, hk, rfl, g2, e0, rfl⟩ KJ hJ
  repeat (first | refine WL.nil ?_ | refine WL.auto (h := ?_) | refine WL.gskip rfl rfl rfl rfl ?_ | refine WL.gauto (h := ?_) | (refine CW.seq ?_; intro K hK) | refine CW.block ?_ | refine CW.region ?_ | refine CW.skip ?_ | refine CW.exit ?_ | refine CW.ret ?_ | (refine thn_ret (K := K) ?_; clear hK K) | refine thn_ret ?_ | refine blk_ret ?_ | (refine thn_exit (K := K) ?_; clear hK K) | refine thn_exit ?_ | refine blk_here ?_ | refine blk_past rfl ?_ | refine thn_norm ?_ | refine blk_norm ?_ | refine CW.condT rfl ?_ | refine CW.condF rfl ?_ | (refine hK _ _ ?_; clear hK K))
  refine CW.condP rfl (fun h2 => ?_) (fun h2 => ?_)
  · have hkl : k < d.files.length := by omega
    have hkf : k < fs.length := by rw [h.len]; exact hkl
    have hkb : k < (ptrs fs).length := by rw [ptrs_length]; exact hkf
    have hsl := (h.own.grow g2).sl
    obtain ⟨h3, DA, dcap, h4, h5⟩ := (h.grow g2).file k d.files[k] fs[k] (List.getElem?_eq_getElem hkl) (List.getElem?_eq_getElem hkf)
    have hat : (ptrs fs)[k]? = some (.pointer (some ⟨fs[k], 0, none⟩)) := by simp [ptrs, hkf]
    have hw := waitOf_le (l := d.files.take k) fun f hf => hd f (List.mem_of_mem_take hf)
    have hl : (d.files.take k).length ≤ 16 := by simp; omega
    have hf := hd d.files[k] (List.getElem_mem hkl)
    have hsn := waitOf_snoc hkl
    repeat (first | refine WL.nil ?_ | refine WL.auto (h := ?_) | refine WL.gskip rfl rfl rfl rfl ?_ | refine WL.gauto (h := ?_) | (refine CW.seq ?_; intro K hK) | refine CW.block ?_ | refine CW.region ?_ | refine CW.skip ?_ | refine CW.exit ?_ | refine CW.ret ?_ | (refine thn_ret (K := K) ?_; clear hK K) | refine thn_ret ?_ | refine blk_ret ?_ | (refine thn_exit (K := K) ?_; clear hK K) | refine thn_exit ?_ | refine blk_here ?_ | refine blk_past rfl ?_ | refine thn_norm ?_ | refine blk_norm ?_ | refine CW.condT rfl ?_ | refine CW.condF rfl ?_ | (refine hK _ _ ?_; clear hK K))
    first | refine WL.step rfl ?_ | refine WL.gstep rfl rfl rfl rfl ?_
    refine OpW.indexAddr k rfl rfl rfl hkl (sl_ne hsl hkb) (sl_sp hsl hkb) ?_
    repeat (first | refine WL.nil ?_ | refine WL.auto (h := ?_) | refine WL.gskip rfl rfl rfl rfl ?_ | refine WL.gauto (h := ?_) | (refine CW.seq ?_; intro K hK) | refine CW.block ?_ | refine CW.region ?_ | refine CW.skip ?_ | refine CW.exit ?_ | refine CW.ret ?_ | (refine thn_ret (K := K) ?_; clear hK K) | refine thn_ret ?_ | refine blk_ret ?_ | (refine thn_exit (K := K) ?_; clear hK K) | refine thn_exit ?_ | refine blk_here ?_ | refine blk_past rfl ?_ | refine thn_norm ?_ | refine blk_norm ?_ | refine CW.condT rfl ?_ | refine CW.condF rfl ?_ | (refine hK _ _ ?_; clear hK K))
    first | refine WL.step rfl ?_ | refine WL.gstep rfl rfl rfl rfl ?_
    refine OpW.loadS (v := .pointer (some ⟨fs[k], 0, none⟩)) rfl hsl (by simpa using hat) ?_
    repeat (first | refine WL.nil ?_ | refine WL.auto (h := ?_) | refine WL.gskip rfl rfl rfl rfl ?_ | refine WL.gauto (h := ?_) | (refine CW.seq ?_; intro K hK) | refine CW.block ?_ | refine CW.region ?_ | refine CW.skip ?_ | refine CW.exit ?_ | refine CW.ret ?_ | (refine thn_ret (K := K) ?_; clear hK K) | refine thn_ret ?_ | refine blk_ret ?_ | (refine thn_exit (K := K) ?_; clear hK K) | refine thn_exit ?_ | refine blk_here ?_ | refine blk_past rfl ?_ | refine thn_norm ?_ | refine blk_norm ?_ | refine CW.condT rfl ?_ | refine CW.condF rfl ?_ | (refine hK _ _ ?_; clear hK K))
    refine CW.quiet rfl (by kernel_rfl) ?_
    repeat (first | refine QL.nil ?_ | refine QL.auto (hn := ?_) | refine QL.gskip rfl rfl rfl rfl ?_ | refine QL.gauto (hn := ?_))
    intro w3 g3
    repeat (first | refine WL.nil ?_ | refine WL.auto (h := ?_) | refine WL.gskip rfl rfl rfl rfl ?_ | refine WL.gauto (h := ?_) | (refine CW.seq ?_; intro K hK) | refine CW.block ?_ | refine CW.region ?_ | refine CW.skip ?_ | refine CW.exit ?_ | refine CW.ret ?_ | (refine thn_ret (K := K) ?_; clear hK K) | refine thn_ret ?_ | refine blk_ret ?_ | (refine thn_exit (K := K) ?_; clear hK K) | refine thn_exit ?_ | refine blk_here ?_ | refine blk_past rfl ?_ | refine thn_norm ?_ | refine blk_norm ?_ | refine CW.condT rfl ?_ | refine CW.condF rfl ?_ | (refine hK _ _ ?_; clear hK K))
    exact hJ (d.files.length - (k + 1)) _ _ (by omega) ⟨k + 1, by omega, rfl, g2.then g3, rep4 (congrArg (Value.int .i64) (by rw [hsn])) rfl rfl (congrArg (Value.int .i64) (by omega))⟩
  · obtain rfl : k = d.files.length := by omega
    rw [List.take_length]
    repeat (first | refine WL.nil ?_ | refine WL.auto (h := ?_) | refine WL.gskip rfl rfl rfl rfl ?_ | refine WL.gauto (h := ?_) | (refine CW.seq ?_; intro K hK) | refine CW.block ?_ | refine CW.region ?_ | refine CW.skip ?_ | refine CW.exit ?_ | refine CW.ret ?_ | (refine thn_ret (K := K) ?_; clear hK K) | refine thn_ret ?_ | refine blk_ret ?_ | (refine thn_exit (K := K) ?_; clear hK K) | refine thn_exit ?_ | refine blk_here ?_ | refine blk_past rfl ?_ | refine thn_norm ?_ | refine blk_norm ?_ | refine CW.condT rfl ?_ | refine CW.condF rfl ?_ | (refine hK _ _ ?_; clear hK K))
    exact out1 Try.results40 rfl ⟨g2, rfl⟩ (Or.inr rfl)
end B
end Go.Proofs.Ytlofcomnhecgfaa
