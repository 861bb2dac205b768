/- The walk of isthmuslaw02.WireAside: it is true. Sizes are bounded. -/
import Derived.Test.YtlofcomnhecgfaaWireF
import Derived.Test.YtlofcomnhecgfaaHeld
namespace Go.Proofs.Ytlofcomnhecgfaa
namespace B
attribute [local irreducible] OpW WL CW Ret Sl Blk thn blk outOf
set_option linter.unusedVariables false
set_option linter.unusedSimpArgs false
set_option maxRecDepth 4000

theorem putB_ahead (l x : List UInt8) : l ++ putB [] x = putB l x := by simp [putB]
theorem putN_ahead (l : List UInt8) (n : Nat) : l ++ putN [] n = putN l n := by simp [putN]
theorem putF_ahead (l : List UInt8) (y : Bool) : l ++ putF [] y = putF l y := by simp [putF]
theorem slNil (w : World) : Sl w none (bvs []) := Sl.nil w none

theorem aside5 (A A2 : Option Addr) (cap cap2 : Nat) (l x : List UInt8) (kind most : Int) (n : Nat) (y : Bool) (w : World) (hs : Sl w A (bvs l)) (hx : Sl w A2 (bvs x)) (hl : l.length ≤ 1048576) (hm : x.length ≤ 1048576) (hc : x.length ≤ cap2) :
    Ret Try.prog 5 #[.slice A l.length cap, .agg #[.int .i64 kind, .int .i64 most, .int .u64 (n : Int), .slice A2 x.length cap2, .bool y]] w fun v w' => v = .bool true ∧ Grow w w' := by
  refine Ret.enter (fn := Try.f5) (N := 52) Try.func5 rfl Try.ntmps5 rfl ?_
  have hbl : ∀ k : List UInt8, (putB k x).length = k.length + (4 + min 65535 x.length) := fun k => putB_length k x
  have hnl : ∀ k : List UInt8, (putN k n).length = k.length + 8 := fun k => putN_length k n
  have hfl : ∀ k : List UInt8, (putF k y).length = k.length + 1 := fun k => putF_length k y
  repeat (first | refine WL.nil ?_ | refine WL.auto (h := ?_) | refine WL.gskip rfl rfl rfl rfl ?_ | refine WL.gauto (h := ?_) | (refine CW.seq ?_; intro K hK) | refine CW.block ?_ | refine CW.region ?_ | refine CW.skip ?_ | refine CW.exit ?_ | refine CW.ret ?_ | (refine thn_ret (K := K) ?_; clear hK K) | refine thn_ret ?_ | refine blk_ret ?_ | (refine thn_exit (K := K) ?_; clear hK K) | refine thn_exit ?_ | refine blk_here ?_ | refine blk_past rfl ?_ | refine thn_norm ?_ | refine blk_norm ?_ | refine CW.condT rfl ?_ | refine CW.condF rfl ?_ | (refine hK _ _ ?_; clear hK K))
  first | refine WL.step rfl ?_ | refine WL.gstep rfl rfl rfl rfl ?_
  refine OpW.box (v := .agg _) rfl ?_
  intro b w1 hn
  have hb : Blk w1 b #[.int .i64 kind, .int .i64 most, .int .u64 (n : Int), .slice A2 x.length cap2, .bool y] 25 := hn.blk
  have hA := hn.grow
  repeat (first | refine WL.nil ?_ | refine WL.auto (h := ?_) | refine WL.gskip rfl rfl rfl rfl ?_ | refine WL.gauto (h := ?_) | (refine CW.seq ?_; intro K hK) | refine CW.block ?_ | refine CW.region ?_ | refine CW.skip ?_ | refine CW.exit ?_ | refine CW.ret ?_ | (refine thn_ret (K := K) ?_; clear hK K) | refine thn_ret ?_ | refine blk_ret ?_ | (refine thn_exit (K := K) ?_; clear hK K) | refine thn_exit ?_ | refine blk_here ?_ | refine blk_past rfl ?_ | refine thn_norm ?_ | refine blk_norm ?_ | refine CW.condT rfl ?_ | refine CW.condF rfl ?_ | (refine hK _ _ ?_; clear hK K))
  refine CW.held No (.take 1 (.take 3 (.take 4 (.one 0 (.one 2 (.one 5 (.one 6 (.one 7 .nil)))))))) rfl (by kernel_rfl) (by kernel_rfl) (fun w10 g10 => ?_)
  repeat (first | refine AL.nil ?_ | refine AL.auto (hn := ?_) | refine AL.gskip rfl rfl rfl rfl rfl ?_ | refine AL.goneSkip rfl rfl rfl rfl rfl ?_ | refine AL.gauto (hn := ?_) | refine AL.oauto (hn := ?_))
  first | refine AL.one rfl rfl ?_ | refine AL.gone rfl rfl rfl rfl rfl ?_
  refine OpW.buildNone (fun b1 w11 n1 => ⟨fun h => h.grow n1.grow, ?_⟩)
  have g11 := g10.then n1.grow
  have o11 : Own w11 (some ⟨b1, 0, none⟩) 5 1 ([] : List UInt8).length 0 (bvs []) (fresh w1) := (Own.empty n1).mono fun k hk => fresh_mono g10 k hk
  repeat (first | refine AL.nil ?_ | refine AL.auto (hn := ?_) | refine AL.gskip rfl rfl rfl rfl rfl ?_ | refine AL.goneSkip rfl rfl rfl rfl rfl ?_ | refine AL.gauto (hn := ?_) | refine AL.oauto (hn := ?_))
  first | refine AL.one rfl rfl ?_ | refine AL.gone rfl rfl rfl rfl rfl ?_
  refine OpW.appB (w0 := w1) (l := []) (m := l) rfl rfl rfl rfl rfl rfl o11 (hs.grow (hA.then g11)) g11 (by simp; omega) (fun A12 c12 w12 o12 g12 _ => ⟨fun _ => g12, ?_⟩)
  repeat (first | refine AL.nil ?_ | refine AL.auto (hn := ?_) | refine AL.gskip rfl rfl rfl rfl rfl ?_ | refine AL.goneSkip rfl rfl rfl rfl rfl ?_ | refine AL.gauto (hn := ?_) | refine AL.oauto (hn := ?_))
  first | refine AL.one rfl rfl ?_ | refine AL.gone rfl rfl rfl rfl rfl ?_
  refine OpW.call ((B22 _ _ _ _ _ x _ (slNil _) (hx.grow (hA.then g12)) (by simp) hc (by omega)).mono ?_) rfl
  rintro v w13 ⟨A13, c13, rfl, o13, g13⟩
  refine ⟨fun h => h.andThen g13, ?_⟩
  repeat (first | refine AL.nil ?_ | refine AL.auto (hn := ?_) | refine AL.gskip rfl rfl rfl rfl rfl ?_ | refine AL.goneSkip rfl rfl rfl rfl rfl ?_ | refine AL.gauto (hn := ?_) | refine AL.oauto (hn := ?_))
  first | refine AL.one rfl rfl ?_ | refine AL.gone rfl rfl rfl rfl rfl ?_
  refine OpW.appB (w0 := w1) (l := [] ++ l) (m := putB [] x) rfl rfl rfl rfl rfl rfl (o12.grow g13) o13.sl (g12.then g13) (by rw [hbl]; simp; omega) (fun A14 c14 w14 o14 g14 _ => ⟨fun _ => g14, ?_⟩)
  rw [show [] ++ l ++ putB [] x = l ++ putB [] x from rfl, putB_ahead] at o14
  rw [show [] ++ l ++ putB [] x = l ++ putB [] x from rfl, putB_ahead]
  repeat (first | refine AL.nil ?_ | refine AL.auto (hn := ?_) | refine AL.gskip rfl rfl rfl rfl rfl ?_ | refine AL.goneSkip rfl rfl rfl rfl rfl ?_ | refine AL.gauto (hn := ?_) | refine AL.oauto (hn := ?_))
  repeat (first | refine WL.nil ?_ | refine WL.auto (h := ?_) | refine WL.gskip rfl rfl rfl rfl ?_ | refine WL.gauto (h := ?_) | (refine CW.seq ?_; intro K hK) | refine CW.block ?_ | refine CW.region ?_ | refine CW.skip ?_ | refine CW.exit ?_ | refine CW.ret ?_ | (refine thn_ret (K := K) ?_; clear hK K) | refine thn_ret ?_ | refine blk_ret ?_ | (refine thn_exit (K := K) ?_; clear hK K) | refine thn_exit ?_ | refine blk_here ?_ | refine blk_past rfl ?_ | refine thn_norm ?_ | refine blk_norm ?_ | refine CW.condT rfl ?_ | refine CW.condF rfl ?_ | (refine hK _ _ ?_; clear hK K))
  replace hb := hb.grow g14
  replace hA := hA.then g14
  refine CW.held No (.take 1 (.take 3 (.take 4 (.one 0 (.one 2 (.one 5 (.one 6 (.one 7 .nil)))))))) rfl (by kernel_rfl) (by kernel_rfl) (fun w20 g20 => ?_)
  repeat (first | refine AL.nil ?_ | refine AL.auto (hn := ?_) | refine AL.gskip rfl rfl rfl rfl rfl ?_ | refine AL.goneSkip rfl rfl rfl rfl rfl ?_ | refine AL.gauto (hn := ?_) | refine AL.oauto (hn := ?_))
  first | refine AL.one rfl rfl ?_ | refine AL.gone rfl rfl rfl rfl rfl ?_
  refine OpW.buildNone (fun b2 w21 n2 => ⟨fun h => h.grow n2.grow, ?_⟩)
  have g21 := g20.then n2.grow
  have o21 : Own w21 (some ⟨b2, 0, none⟩) 5 1 ([] : List UInt8).length 0 (bvs []) (fresh w14) := (Own.empty n2).mono fun k hk => fresh_mono g20 k hk
  repeat (first | refine AL.nil ?_ | refine AL.auto (hn := ?_) | refine AL.gskip rfl rfl rfl rfl rfl ?_ | refine AL.goneSkip rfl rfl rfl rfl rfl ?_ | refine AL.gauto (hn := ?_) | refine AL.oauto (hn := ?_))
  first | refine AL.one rfl rfl ?_ | refine AL.gone rfl rfl rfl rfl rfl ?_
  refine OpW.appB (w0 := w14) (l := []) (m := l) rfl rfl rfl rfl rfl rfl o21 (hs.grow (hA.then g21)) g21 (by simp; omega) (fun A22 c22 w22 o22 g22 _ => ⟨fun _ => g22, ?_⟩)
  repeat (first | refine AL.nil ?_ | refine AL.auto (hn := ?_) | refine AL.gskip rfl rfl rfl rfl rfl ?_ | refine AL.goneSkip rfl rfl rfl rfl rfl ?_ | refine AL.gauto (hn := ?_) | refine AL.oauto (hn := ?_))
  first | refine AL.one rfl rfl ?_ | refine AL.gone rfl rfl rfl rfl rfl ?_
  refine OpW.call ((N21 _ _ _ n _ (slNil _) (by simp)).mono ?_) rfl
  rintro v w23 ⟨A23, c23, rfl, o23, g23⟩
  refine ⟨fun h => h.andThen g23, ?_⟩
  repeat (first | refine AL.nil ?_ | refine AL.auto (hn := ?_) | refine AL.gskip rfl rfl rfl rfl rfl ?_ | refine AL.goneSkip rfl rfl rfl rfl rfl ?_ | refine AL.gauto (hn := ?_) | refine AL.oauto (hn := ?_))
  first | refine AL.one rfl rfl ?_ | refine AL.gone rfl rfl rfl rfl rfl ?_
  refine OpW.appB (w0 := w14) (l := [] ++ l) (m := putN [] n) rfl rfl rfl rfl rfl rfl (o22.grow g23) o23.sl (g22.then g23) (by rw [hnl]; simp; omega) (fun A24 c24 w24 o24 g24 _ => ⟨fun _ => g24, ?_⟩)
  rw [show [] ++ l ++ putN [] n = l ++ putN [] n from rfl, putN_ahead] at o24
  rw [show [] ++ l ++ putN [] n = l ++ putN [] n from rfl, putN_ahead]
  repeat (first | refine AL.nil ?_ | refine AL.auto (hn := ?_) | refine AL.gskip rfl rfl rfl rfl rfl ?_ | refine AL.goneSkip rfl rfl rfl rfl rfl ?_ | refine AL.gauto (hn := ?_) | refine AL.oauto (hn := ?_))
  repeat (first | refine WL.nil ?_ | refine WL.auto (h := ?_) | refine WL.gskip rfl rfl rfl rfl ?_ | refine WL.gauto (h := ?_) | (refine CW.seq ?_; intro K hK) | refine CW.block ?_ | refine CW.region ?_ | refine CW.skip ?_ | refine CW.exit ?_ | refine CW.ret ?_ | (refine thn_ret (K := K) ?_; clear hK K) | refine thn_ret ?_ | refine blk_ret ?_ | (refine thn_exit (K := K) ?_; clear hK K) | refine thn_exit ?_ | refine blk_here ?_ | refine blk_past rfl ?_ | refine thn_norm ?_ | refine blk_norm ?_ | refine CW.condT rfl ?_ | refine CW.condF rfl ?_ | (refine hK _ _ ?_; clear hK K))
  replace hb := hb.grow g24
  replace hA := hA.then g24
  replace o14 := o14.grow g24
  refine CW.held No (.one 0 (.take 1 (.take 2 (.take 3 (.take 4 (.take 6 (.one 5 (.one 7 (.take 8 (.take 9 (.take 10 (.take 11 (.take 12 (.take 14 (.one 13 (.one 15 (.take 16 (.take 17 (.take 18 (.take 19 (.take 20 (.take 23 (.take 25 (.take 26 (.two 21 (.one 22 (.one 24 (.one 27 (.one 28 (.one 29 (.take 30 (.one 31 .nil))))))) 22 (.one 21 (.one 24 (.one 27 (.one 28 (.one 29 (.take 30 (.one 31 .nil)))))))))))))))))))))))))))))))) rfl (by kernel_rfl) (by kernel_rfl) (fun w30 g30 => ?_)
  first | refine AL.one rfl rfl ?_ | refine AL.gone rfl rfl rfl rfl rfl ?_
  refine OpW.call ((fixed25 _).mono ?_) rfl
  rintro v w31 ⟨rfl, h31⟩
  have g31 := g30.then h31
  refine ⟨fun h => h.andThen h31, ?_⟩
  repeat (first | refine AL.nil ?_ | refine AL.auto (hn := ?_) | refine AL.gskip rfl rfl rfl rfl rfl ?_ | refine AL.goneSkip rfl rfl rfl rfl rfl ?_ | refine AL.gauto (hn := ?_) | refine AL.oauto (hn := ?_))
  first | refine AL.one rfl rfl ?_ | refine AL.gone rfl rfl rfl rfl rfl ?_
  refine OpW.call ((B22 _ _ _ _ _ _ _ (hs.grow (hA.then g31)) (hx.grow (hA.then g31)) (by omega) hc (by omega)).mono ?_) rfl
  rintro v w32 ⟨A5, c5, rfl, o32, h32⟩
  have g32 := g31.then h32
  refine ⟨fun h => h.andThen h32, ?_⟩
  repeat (first | refine AL.nil ?_ | refine AL.auto (hn := ?_) | refine AL.gskip rfl rfl rfl rfl rfl ?_ | refine AL.goneSkip rfl rfl rfl rfl rfl ?_ | refine AL.gauto (hn := ?_) | refine AL.oauto (hn := ?_))
  first | refine AL.one rfl rfl ?_ | refine AL.gone rfl rfl rfl rfl rfl ?_
  refine OpW.call ((same26 _ _ _ _ _ _ _ o32.sl (o14.grow g32).sl (by rw [hbl]; omega)).mono ?_) rfl
  rintro v w33 ⟨rfl, h33⟩
  rw [show decide (putB l x = putB l x) = true from decide_eq_true rfl]
  have g33 := g32.then h33
  refine ⟨fun h => h.andThen h33, ?_⟩
  repeat (first | refine AL.nil ?_ | refine AL.auto (hn := ?_) | refine AL.gskip rfl rfl rfl rfl rfl ?_ | refine AL.goneSkip rfl rfl rfl rfl rfl ?_ | refine AL.gauto (hn := ?_) | refine AL.oauto (hn := ?_))
  first | refine AL.one rfl rfl ?_ | refine AL.gone rfl rfl rfl rfl rfl ?_
  refine OpW.call ((N21 _ _ _ _ _ (hs.grow (hA.then g33)) (by omega)).mono ?_) rfl
  rintro v w34 ⟨A6, c6, rfl, o34, h34⟩
  have g34 := g33.then h34
  refine ⟨fun h => h.andThen h34, ?_⟩
  repeat (first | refine AL.nil ?_ | refine AL.auto (hn := ?_) | refine AL.gskip rfl rfl rfl rfl rfl ?_ | refine AL.goneSkip rfl rfl rfl rfl rfl ?_ | refine AL.gauto (hn := ?_) | refine AL.oauto (hn := ?_))
  first | refine AL.one rfl rfl ?_ | refine AL.gone rfl rfl rfl rfl rfl ?_
  refine OpW.call ((same26 _ _ _ _ _ _ _ o34.sl (o24.grow g34).sl (by rw [hnl]; omega)).mono ?_) rfl
  rintro v w35 ⟨rfl, h35⟩
  rw [show decide (putN l n = putN l n) = true from decide_eq_true rfl]
  have g35 := g34.then h35
  refine ⟨fun h => h.andThen h35, ?_⟩
  repeat (first | refine AL.nil ?_ | refine AL.auto (hn := ?_) | refine AL.gskip rfl rfl rfl rfl rfl ?_ | refine AL.goneSkip rfl rfl rfl rfl rfl ?_ | refine AL.gauto (hn := ?_) | refine AL.oauto (hn := ?_))
  refine AL.two ?_ ?_
  · first | refine AL.one rfl rfl ?_ | refine AL.gone rfl rfl rfl rfl rfl ?_
    refine OpW.call ((F24 _ _ _ y _ (hs.grow (hA.then g35)) (by omega)).mono ?_) rfl
    rintro v w36 ⟨A7, c7, rfl, o36, h36⟩
    have g36 := g35.then h36
    refine ⟨fun h => h.andThen h36, ?_⟩
    repeat (first | refine AL.nil ?_ | refine AL.auto (hn := ?_) | refine AL.gskip rfl rfl rfl rfl rfl ?_ | refine AL.goneSkip rfl rfl rfl rfl rfl ?_ | refine AL.gauto (hn := ?_) | refine AL.oauto (hn := ?_))
    first | refine AL.one rfl rfl ?_ | refine AL.gone rfl rfl rfl rfl rfl ?_
    refine OpW.buildNone (fun b3 w37 n3 => ⟨fun h => h.grow n3.grow, ?_⟩)
    have g37 := g36.then n3.grow
    have o37 : Own w37 (some ⟨b3, 0, none⟩) 5 1 ([] : List UInt8).length 0 (bvs []) (fresh w24) := (Own.empty n3).mono fun k hk => fresh_mono g36 k hk
    repeat (first | refine AL.nil ?_ | refine AL.auto (hn := ?_) | refine AL.gskip rfl rfl rfl rfl rfl ?_ | refine AL.goneSkip rfl rfl rfl rfl rfl ?_ | refine AL.gauto (hn := ?_) | refine AL.oauto (hn := ?_))
    first | refine AL.one rfl rfl ?_ | refine AL.gone rfl rfl rfl rfl rfl ?_
    have o36' := o36
    refine OpW.appBZ (w0 := w24) (Z := fun k => w24.heap.size ≤ k ∧ ∀ a, A7 = some a → a.block ≠ k) (l := []) (m := l) rfl rfl rfl rfl rfl rfl (o37.zone fun a' h1 => ⟨(o37.in_ h1).1, fun a ha => by obtain rfl := Option.some.inj h1; show a.block ≠ b3; have := (o36'.in_ ha).2; have := n3.fresh; omega⟩) (hs.grow (hA.then g37)) g37 (fun _ h => h.1) (fun k hk => ⟨Nat.le_trans g37.size hk, fun a ha => by have := (o36.in_ ha).2; have := n3.grow.size; omega⟩) (by simp; omega) (fun A8 c8 w38 o38 g38 hz => ⟨fun _ => g38, ?_⟩)
    have sp38 : ∀ a, A7 = some a → ∀ k, (w24.heap.size ≤ k ∧ ∀ a, A7 = some a → a.block ≠ k) → a.block ≠ k := fun a ha k h => h.2 a ha
    have o36' := o36
    replace o36 := (o36.grow n3.grow).keep' hz (by rintro a rfl ⟨a', h1, h2⟩; obtain rfl := Option.some.inj h1; have h2 : b3 = a.block := h2; have h3 := (o36'.in_ rfl).2; have h4 := n3.fresh; omega)
    repeat (first | refine AL.nil ?_ | refine AL.auto (hn := ?_) | refine AL.gskip rfl rfl rfl rfl rfl ?_ | refine AL.goneSkip rfl rfl rfl rfl rfl ?_ | refine AL.gauto (hn := ?_) | refine AL.oauto (hn := ?_))
    first | refine AL.one rfl rfl ?_ | refine AL.gone rfl rfl rfl rfl rfl ?_
    refine OpW.call ((F24 _ _ _ y _ (slNil _) (by simp)).mono ?_) rfl
    rintro v w39 ⟨A9, c9, rfl, o39, h39⟩
    refine ⟨fun h => h.andThen h39, ?_⟩
    replace o36 := o36.grow h39
    repeat (first | refine AL.nil ?_ | refine AL.auto (hn := ?_) | refine AL.gskip rfl rfl rfl rfl rfl ?_ | refine AL.goneSkip rfl rfl rfl rfl rfl ?_ | refine AL.gauto (hn := ?_) | refine AL.oauto (hn := ?_))
    first | refine AL.one rfl rfl ?_ | refine AL.gone rfl rfl rfl rfl rfl ?_
    refine OpW.appBZ (w0 := w24) (l := [] ++ l) (m := putF [] y) rfl rfl rfl rfl rfl rfl (o38.grow h39) o39.sl (g38.then h39) (fun _ h => h.1) (fun k hk => ⟨Nat.le_trans (g38.then h39).size hk, fun a ha => by have := (o36.in_ ha).2; omega⟩) (by rw [hfl]; simp; omega) (fun A10 c10 w40 o40 g40 hz2 => ⟨fun _ => g40, ?_⟩)
    rw [show [] ++ l ++ putF [] y = l ++ putF [] y from rfl, putF_ahead] at o40
    rw [show [] ++ l ++ putF [] y = l ++ putF [] y from rfl, putF_ahead]
    repeat (first | refine AL.nil ?_ | refine AL.auto (hn := ?_) | refine AL.gskip rfl rfl rfl rfl rfl ?_ | refine AL.goneSkip rfl rfl rfl rfl rfl ?_ | refine AL.gauto (hn := ?_) | refine AL.oauto (hn := ?_))
    first | refine AL.one rfl rfl ?_ | refine AL.gone rfl rfl rfl rfl rfl ?_
    refine OpW.call ((same26 _ _ _ _ _ _ _ (o36.keep' hz2 (fun a ha ⟨a', h1, h2⟩ => ((o38.in_ h1).1.2 a ha) h2.symm)).sl o40.sl (by rw [hfl]; omega)).mono ?_) rfl
    rintro v w41 ⟨rfl, h41⟩
    rw [show decide (putF l y = putF l y) = true from decide_eq_true rfl]
    refine ⟨fun h => h.andThen h41, ?_⟩
    repeat (first | refine AL.nil ?_ | refine AL.auto (hn := ?_) | refine AL.gskip rfl rfl rfl rfl rfl ?_ | refine AL.goneSkip rfl rfl rfl rfl rfl ?_ | refine AL.gauto (hn := ?_) | refine AL.oauto (hn := ?_))
    repeat (first | refine WL.nil ?_ | refine WL.auto (h := ?_) | refine WL.gskip rfl rfl rfl rfl ?_ | refine WL.gauto (h := ?_) | (refine CW.seq ?_; intro K hK) | refine CW.block ?_ | refine CW.region ?_ | refine CW.skip ?_ | refine CW.exit ?_ | refine CW.ret ?_ | (refine thn_ret (K := K) ?_; clear hK K) | refine thn_ret ?_ | refine blk_ret ?_ | (refine thn_exit (K := K) ?_; clear hK K) | refine thn_exit ?_ | refine blk_here ?_ | refine blk_past rfl ?_ | refine thn_norm ?_ | refine blk_norm ?_ | refine CW.condT rfl ?_ | refine CW.condF rfl ?_ | (refine hK _ _ ?_; clear hK K))
    exact out1 (v := .bool true) Try.results5 rfl ⟨rfl, hA.then (g40.then h41)⟩ (Or.inr rfl)
  · first | refine AL.one rfl rfl ?_ | refine AL.gone rfl rfl rfl rfl rfl ?_
    refine OpW.buildNone (fun b3 w36 n3 => ⟨fun h => h.grow n3.grow, ?_⟩)
    have g36 := g35.then n3.grow
    have o37 : Own w36 (some ⟨b3, 0, none⟩) 5 1 ([] : List UInt8).length 0 (bvs []) (fresh w24) := (Own.empty n3).mono fun k hk => fresh_mono g35 k hk
    repeat (first | refine AL.nil ?_ | refine AL.auto (hn := ?_) | refine AL.gskip rfl rfl rfl rfl rfl ?_ | refine AL.goneSkip rfl rfl rfl rfl rfl ?_ | refine AL.gauto (hn := ?_) | refine AL.oauto (hn := ?_))
    first | refine AL.one rfl rfl ?_ | refine AL.gone rfl rfl rfl rfl rfl ?_
    refine OpW.call ((F24 _ _ _ y _ (hs.grow (hA.then g36)) (by omega)).mono ?_) rfl
    rintro v w37 ⟨A7, c7, rfl, o36, h37⟩
    have g37 := g36.then h37
    refine ⟨fun h => h.andThen h37, ?_⟩
    repeat (first | refine AL.nil ?_ | refine AL.auto (hn := ?_) | refine AL.gskip rfl rfl rfl rfl rfl ?_ | refine AL.goneSkip rfl rfl rfl rfl rfl ?_ | refine AL.gauto (hn := ?_) | refine AL.oauto (hn := ?_))
    first | refine AL.one rfl rfl ?_ | refine AL.gone rfl rfl rfl rfl rfl ?_
    refine OpW.appBZ (w0 := w24) (Z := fun k => w24.heap.size ≤ k ∧ ∀ a, A7 = some a → a.block ≠ k) (l := []) (m := l) rfl rfl rfl rfl rfl rfl ((o37.grow h37).zone fun a' h1 => ⟨(o37.in_ h1).1, fun a ha => by obtain rfl := Option.some.inj h1; show a.block ≠ b3; have h3 := (o36.in_ ha).1; have := n3.blk.lt; unfold fresh at h3; omega⟩) (hs.grow (hA.then g37)) g37 (fun _ h => h.1) (fun k hk => ⟨Nat.le_trans g37.size hk, fun a ha => by have := (o36.in_ ha).2; omega⟩) (by simp; omega) (fun A8 c8 w38 o38 g38 hz => ⟨fun _ => g38, ?_⟩)
    have sp38 : ∀ a, A7 = some a → ∀ k, (w24.heap.size ≤ k ∧ ∀ a, A7 = some a → a.block ≠ k) → a.block ≠ k := fun a ha k h => h.2 a ha
    replace o36 := o36.keep' hz (by rintro a rfl ⟨a', h1, h2⟩; obtain rfl := Option.some.inj h1; have h2 : b3 = a.block := h2; have h3 := (o36.in_ rfl).1; have h4 := n3.blk.lt; unfold fresh at h3; omega)
    repeat (first | refine AL.nil ?_ | refine AL.auto (hn := ?_) | refine AL.gskip rfl rfl rfl rfl rfl ?_ | refine AL.goneSkip rfl rfl rfl rfl rfl ?_ | refine AL.gauto (hn := ?_) | refine AL.oauto (hn := ?_))
    first | refine AL.one rfl rfl ?_ | refine AL.gone rfl rfl rfl rfl rfl ?_
    refine OpW.call ((F24 _ _ _ y _ (slNil _) (by simp)).mono ?_) rfl
    rintro v w39 ⟨A9, c9, rfl, o39, h39⟩
    refine ⟨fun h => h.andThen h39, ?_⟩
    replace o36 := o36.grow h39
    repeat (first | refine AL.nil ?_ | refine AL.auto (hn := ?_) | refine AL.gskip rfl rfl rfl rfl rfl ?_ | refine AL.goneSkip rfl rfl rfl rfl rfl ?_ | refine AL.gauto (hn := ?_) | refine AL.oauto (hn := ?_))
    first | refine AL.one rfl rfl ?_ | refine AL.gone rfl rfl rfl rfl rfl ?_
    refine OpW.appBZ (w0 := w24) (l := [] ++ l) (m := putF [] y) rfl rfl rfl rfl rfl rfl (o38.grow h39) o39.sl (g38.then h39) (fun _ h => h.1) (fun k hk => ⟨Nat.le_trans (g38.then h39).size hk, fun a ha => by have := (o36.in_ ha).2; omega⟩) (by rw [hfl]; simp; omega) (fun A10 c10 w40 o40 g40 hz2 => ⟨fun _ => g40, ?_⟩)
    rw [show [] ++ l ++ putF [] y = l ++ putF [] y from rfl, putF_ahead] at o40
    rw [show [] ++ l ++ putF [] y = l ++ putF [] y from rfl, putF_ahead]
    repeat (first | refine AL.nil ?_ | refine AL.auto (hn := ?_) | refine AL.gskip rfl rfl rfl rfl rfl ?_ | refine AL.goneSkip rfl rfl rfl rfl rfl ?_ | refine AL.gauto (hn := ?_) | refine AL.oauto (hn := ?_))
    first | refine AL.one rfl rfl ?_ | refine AL.gone rfl rfl rfl rfl rfl ?_
    refine OpW.call ((same26 _ _ _ _ _ _ _ (o36.keep' hz2 (fun a ha ⟨a', h1, h2⟩ => ((o38.in_ h1).1.2 a ha) h2.symm)).sl o40.sl (by rw [hfl]; omega)).mono ?_) rfl
    rintro v w41 ⟨rfl, h41⟩
    rw [show decide (putF l y = putF l y) = true from decide_eq_true rfl]
    refine ⟨fun h => h.andThen h41, ?_⟩
    repeat (first | refine AL.nil ?_ | refine AL.auto (hn := ?_) | refine AL.gskip rfl rfl rfl rfl rfl ?_ | refine AL.goneSkip rfl rfl rfl rfl rfl ?_ | refine AL.gauto (hn := ?_) | refine AL.oauto (hn := ?_))
    repeat (first | refine WL.nil ?_ | refine WL.auto (h := ?_) | refine WL.gskip rfl rfl rfl rfl ?_ | refine WL.gauto (h := ?_) | (refine CW.seq ?_; intro K hK) | refine CW.block ?_ | refine CW.region ?_ | refine CW.skip ?_ | refine CW.exit ?_ | refine CW.ret ?_ | (refine thn_ret (K := K) ?_; clear hK K) | refine thn_ret ?_ | refine blk_ret ?_ | (refine thn_exit (K := K) ?_; clear hK K) | refine thn_exit ?_ | refine blk_here ?_ | refine blk_past rfl ?_ | refine thn_norm ?_ | refine blk_norm ?_ | refine CW.condT rfl ?_ | refine CW.condF rfl ?_ | (refine hK _ _ ?_; clear hK K))
    exact out1 (v := .bool true) Try.results5 rfl ⟨rfl, hA.then (g40.then h41)⟩ (Or.inr rfl)
end B
end Go.Proofs.Ytlofcomnhecgfaa
