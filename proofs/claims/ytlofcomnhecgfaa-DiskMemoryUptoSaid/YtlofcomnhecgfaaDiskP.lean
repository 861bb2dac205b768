/- Plain: disks that are in order, whatever is called. -/
import Derived.Test.YtlofcomnhecgfaaDiskO
import Derived.Test.YtlofcomnhecgfaaArgs3
namespace Go.Proofs.Ytlofcomnhecgfaa
namespace B
set_option linter.unusedVariables false
set_option linter.unusedSimpArgs false
set_option maxRecDepth 4000

structure Good (l : List PF) : Prop where
  len : l.length ≤ 16
  nm : ∀ f ∈ l, rightName f.name = true
  nd : (l.map PF.name).Nodup
  sf : ∀ f ∈ l, f.safe ≤ f.data.length
structure Fit (d : PD) (M : Nat) : Prop where
  good : Good d.files
  arm : d.armed ≤ 9223372036854775807
  dat : ∀ f ∈ d.files, f.data.length ≤ M
theorem Fit.le {d : PD} {M M' : Nat} (h : Fit d M) (hm : M ≤ M') : Fit d M' := ⟨h.good, h.arm, fun f hf => Nat.le_trans (h.dat f hf) hm⟩
theorem Fit.dat' {d : PD} {M : Nat} (h : Fit d M) (hm : M ≤ 1099511627776) : ∀ f ∈ d.files, f.data.length ≤ 1099511627776 := fun f hf => Nat.le_trans (h.dat f hf) hm
theorem Fit.both {d : PD} {M : Nat} (h : Fit d M) (hm : M ≤ 1099511627776) : ∀ f ∈ d.files, f.data.length ≤ 1099511627776 ∧ f.safe ≤ f.data.length := fun f hf => ⟨Nat.le_trans (h.dat f hf) hm, h.good.sf f hf⟩
theorem Good.nil : Good [] := ⟨by simp, by simp, by simp, by simp⟩
theorem Fit.new : Fit ⟨[], false, 0⟩ 0 := ⟨Good.nil, by decide, by simp⟩
theorem Fit.begin {d : PD} {M : Nat} (h : Fit d M) : Fit d.begin.2.2 M := by
  have h1 := h.arm
  unfold PD.begin
  split
  · exact h
  · split
    · split
      · exact ⟨h.good, by simp, h.dat⟩
      · exact ⟨h.good, by simp only; omega, h.dat⟩
    · exact h
theorem ix_none {d : PD} {s : List UInt8} (h : d.ix s = none) : s ∉ d.files.map PF.name := by
  unfold PD.ix at h
  rw [List.findIdx?_eq_none_iff] at h
  intro hm
  obtain ⟨f, hf, rfl⟩ := List.mem_map.1 hm
  simpa using h f hf
theorem map_set_name {l : List PF} {i : Nat} {f f' : PF} (hi : l[i]? = some f) (hn : f'.name = f.name) : (l.set i f').map PF.name = l.map PF.name := by
  rw [List.map_set, hn]
  apply List.ext_getElem?
  intro j
  rw [List.getElem?_set]
  split
  · rename_i h
    subst h
    split
    · rw [List.getElem?_map, hi]; rfl
    · rename_i h2; simp at h2; rw [List.getElem?_eq_none (by simp; omega)]
  · rfl
theorem Good.set {l : List PF} {i : Nat} {f f' : PF} (h : Good l) (hi : l[i]? = some f) (hn : f'.name = f.name) (hs : f'.safe ≤ f'.data.length) : Good (l.set i f') := by
  have hf := h.nm f (List.mem_of_getElem? hi)
  refine ⟨by simpa using h.len, fun g hg => ?_, by rw [map_set_name hi hn]; exact h.nd, fun g hg => ?_⟩
  · rcases List.mem_or_eq_of_mem_set hg with hg | rfl
    · exact h.nm g hg
    · rw [hn]; exact hf
  · rcases List.mem_or_eq_of_mem_set hg with hg | rfl
    · exact h.sf g hg
    · exact hs
theorem Good.snoc {l : List PF} {f : PF} (h : Good l) (hl : l.length < 16) (hn : rightName f.name = true) (hm : f.name ∉ l.map PF.name) (hs : f.safe ≤ f.data.length) : Good (l ++ [f]) := by
  refine ⟨by simp; omega, fun g hg => ?_, ?_, fun g hg => ?_⟩
  · rcases List.mem_append.1 hg with hg | hg
    · exact h.nm g hg
    · rw [List.mem_singleton.1 hg]; exact hn
  · rw [List.map_append, List.nodup_append]
    refine ⟨h.nd, by simp, fun a ha b hb e => ?_⟩
    simp only [List.map_cons, List.map_nil, List.mem_singleton] at hb
    subst hb
    rw [e] at ha
    exact hm ha
  · rcases List.mem_append.1 hg with hg | hg
    · exact h.sf g hg
    · rw [List.mem_singleton.1 hg]; exact hs
theorem Fit.setOne {d : PD} {M : Nat} {i : Nat} {f f' : PF} (h : Fit d M) (hi : d.files[i]? = some f) (hn : f'.name = f.name) (hs : f'.safe ≤ f'.data.length) (hd : f'.data.length ≤ M) : Fit { d with files := d.files.set i f' } M := by
  refine ⟨h.good.set hi hn hs, h.arm, fun g hg => ?_⟩
  rcases List.mem_or_eq_of_mem_set hg with hg | rfl
  · exact h.dat g hg
  · exact hd
theorem Fit.append {d : PD} {M : Nat} (h : Fit d M) (s b : List UInt8) : Fit (d.append s b).2 (M + b.length) := by
  have hb := h.begin
  unfold PD.append
  generalize d.begin = r at *
  obtain ⟨dn, e, d1⟩ := r
  simp only at hb ⊢
  split
  · cases hx : d1.ix s with
    | none =>
      simp only
      split
      · exact hb.le (Nat.le_add_right _ _)
      · rename_i h1
        refine ⟨hb.good.snoc (by have := hb.good.len; have : d1.files.length ≠ 16 := fun e => h1 (Or.inr e); omega) (by cases hq : rightName s with
          | true => rfl
          | false => exact absurd (Or.inl hq) h1) (ix_none hx) (Nat.zero_le _), hb.arm, fun g hg => ?_⟩
        rcases List.mem_append.1 hg with hg | hg
        · exact Nat.le_trans (hb.dat g hg) (Nat.le_add_right _ _)
        · rw [List.mem_singleton.1 hg]; exact Nat.le_add_left _ _
    | some i =>
      simp only
      obtain ⟨f, hi, hn⟩ := ix_get hx
      rw [modify_set hi]
      have hfd := hb.dat f (List.mem_of_getElem? hi)
      have hfs := hb.good.sf f (List.mem_of_getElem? hi)
      exact (hb.le (Nat.le_add_right _ _)).setOne hi rfl (by simp; omega) (by simp; omega)
  · exact hb.le (Nat.le_add_right _ _)
theorem Fit.sync {d : PD} {M : Nat} (h : Fit d M) (s : List UInt8) : Fit (d.sync s).2 M := by
  have hb := h.begin
  unfold PD.sync
  generalize d.begin = r at *
  obtain ⟨dn, e, d1⟩ := r
  simp only at hb ⊢
  split
  · exact hb
  · cases hx : d1.ix s with
    | none => exact hb
    | some i =>
      simp only
      obtain ⟨f, hi, hn⟩ := ix_get hx
      rw [modify_set hi]
      exact hb.setOne hi rfl (Nat.le_refl _) (hb.dat f (List.mem_of_getElem? hi))
theorem Fit.truncate {d : PD} {M : Nat} (h : Fit d M) (s : List UInt8) (n : Int) : Fit (d.truncate s n).2 M := by
  have hb := h.begin
  unfold PD.truncate
  generalize d.begin = r at *
  obtain ⟨dn, e, d1⟩ := r
  simp only at hb ⊢
  split
  · exact hb
  · cases hx : d1.ix s with
    | none => exact hb
    | some i =>
      obtain ⟨f, hi, hn⟩ := ix_get hx
      have hfd := hb.dat f (List.mem_of_getElem? hi)
      have hfs := hb.good.sf f (List.mem_of_getElem? hi)
      simp only [hi, Option.map_some, Option.getD_some]
      split
      · exact hb
      · rename_i h1
        simp only
        rw [modify_set hi]
        exact hb.setOne hi rfl (by simp only [List.length_take]; omega) (by simp only [List.length_take]; omega)
theorem Fit.arm' {d : PD} {M : Nat} (h : Fit d M) (n : Int) (hn : n ≤ 9223372036854775807) : Fit (d.arm n) M := by
  unfold PD.arm
  split
  · exact h
  · exact ⟨h.good, by show n.toNat ≤ _; omega, h.dat⟩

/-! ### Load, Crash -/
def toPF (x : List UInt8 × List UInt8) : PF := ⟨x.1, x.2, x.2.length⟩
theorem ix_some_mem {l : List PF} {s : List UInt8} (h : (PD.ix ⟨l, false, 0⟩ s).isSome = true) : s ∈ l.map PF.name := by
  cases hx : PD.ix ⟨l, false, 0⟩ s with
  | none => rw [hx] at h; cases h
  | some i =>
    obtain ⟨f, hi, hn⟩ := ix_get hx
    rw [← hn]
    exact List.mem_map.2 ⟨f, List.mem_of_getElem? hi, rfl⟩
theorem loadGo_some : ∀ (xs : List (List UInt8 × List UInt8)) (acc l : List PF), Good acc → loadGo acc xs = some l → l = acc ++ xs.map toPF ∧ Good l := by
  intro xs
  induction xs with
  | nil =>
    intro acc l hg h
    rw [loadGo] at h
    cases h
    exact ⟨by simp, hg⟩
  | cons x xs ih =>
    intro acc l hg h
    rw [loadGo] at h
    split at h
    · cases h
    · rename_i h1
      have hx : PD.ix ⟨acc, false, 0⟩ x.1 = none := by
        cases hq : PD.ix ⟨acc, false, 0⟩ x.1 with
        | none => rfl
        | some i => exact absurd (Or.inr (Or.inl (by rw [hq]; rfl))) h1
      have hl := hg.len
      obtain ⟨h2, h3⟩ := ih _ _ (hg.snoc (f := toPF x) (by have : acc.length ≠ 16 := fun e => h1 (Or.inr (Or.inr e)); omega) (by
        show rightName x.1 = true
        cases hq : rightName x.1 with
        | true => rfl
        | false => exact absurd (Or.inl hq) h1) (ix_none hx) (Nat.le_refl _)) h
      exact ⟨by rw [h2]; simp [toPF], h3⟩
theorem loadGo_ok : ∀ (xs : List (List UInt8 × List UInt8)) (acc : List PF), Good (acc ++ xs.map toPF) → loadGo acc xs = some (acc ++ xs.map toPF) := by
  intro xs
  induction xs with
  | nil => intro acc _; simp [loadGo]
  | cons x xs ih =>
    intro acc hg
    have hnd := hg.nd
    have hl := hg.len
    have hr := hg.nm (toPF x) (by simp)
    simp only [List.map_append, List.map_cons, List.length_append, List.length_cons] at hnd hl
    have hx : ¬ (PD.ix ⟨acc, false, 0⟩ x.1).isSome = true := fun h => by
      have hm := ix_some_mem h
      rw [List.nodup_append] at hnd
      exact hnd.2.2 _ hm x.1 (by simp [toPF]) rfl
    rw [loadGo, if_neg (by
      rintro (h | h | h)
      · rw [show rightName x.1 = true from hr] at h; cases h
      · exact hx h
      · omega)]
    have := ih (acc ++ [⟨x.1, x.2, x.2.length⟩]) (by simpa [toPF] using hg)
    rw [this]
    simp [toPF]
theorem crash_names : ∀ (l : List PF) (ks : List Bool), (crashAll l ks).1.map Prod.fst = l.map PF.name := by
  intro l
  induction l with
  | nil => intro ks; rfl
  | cons f l ih => intro ks; simp [crashAll, ih]
theorem crash_le : ∀ (l : List PF) (ks : List Bool), (∀ f ∈ l, f.safe ≤ f.data.length) → ∀ M, (∀ f ∈ l, f.data.length ≤ M) → ∀ x ∈ (crashAll l ks).1, x.2.length ≤ M := by
  intro l
  induction l with
  | nil => intro ks _ M _ x hx; simp [crashAll] at hx
  | cons f l ih =>
    intro ks hs M hM x hx
    simp only [crashAll, List.mem_cons] at hx
    rcases hx with rfl | hx
    · have h1 := hs f (by simp)
      have h2 := crashRun_len (f := f) (ks := ks) (k := f.data.length - f.safe) (by omega)
      have h3 := hM f (by simp)
      simp only [crashFile, List.length_take]
      omega
    · exact ih _ (fun g hg => hs g (by simp [hg])) M (fun g hg => hM g (by simp [hg])) x hx
theorem crash_good {l : List PF} (h : Good l) (ks : List Bool) : Good ((crashAll l ks).1.map toPF) := by
  refine ⟨?_, fun f hf => ?_, ?_, fun f hf => ?_⟩
  · rw [List.length_map, crashAll_length]; exact h.len
  · obtain ⟨x, hx, rfl⟩ := List.mem_map.1 hf
    have h1 : x.1 ∈ (crashAll l ks).1.map Prod.fst := List.mem_map.2 ⟨x, hx, rfl⟩
    rw [crash_names] at h1
    obtain ⟨g, hg, hgn⟩ := List.mem_map.1 h1
    show rightName x.1 = true
    rw [← hgn]; exact h.nm g hg
  · rw [List.map_map, show (PF.name ∘ toPF) = Prod.fst from rfl, crash_names]; exact h.nd
  · obtain ⟨x, hx, rfl⟩ := List.mem_map.1 hf
    exact Nat.le_refl _
theorem crash_load {d : PD} {M : Nat} (h : Fit d M) (ks : List Bool) : loadGo [] (crashAll d.files ks).1 = some ((crashAll d.files ks).1.map toPF) ∧ Fit ⟨(crashAll d.files ks).1.map toPF, false, 0⟩ M ∧ (∀ x ∈ (crashAll d.files ks).1, x.1.length ≤ 32 ∧ x.2.length ≤ M) := by
  have hg := crash_good h.good ks
  refine ⟨?_, ⟨hg, Nat.zero_le _, fun f hf => ?_⟩, fun x hx => ⟨?_, crash_le _ _ h.good.sf _ h.dat x hx⟩⟩
  · have := loadGo_ok (crashAll d.files ks).1 [] (by simpa using hg)
    simpa using this
  · obtain ⟨x, hx, rfl⟩ := List.mem_map.1 hf
    exact crash_le _ _ h.good.sf _ h.dat x hx
  · have h1 := hg.nm (toPF x) (List.mem_map.2 ⟨x, hx, rfl⟩)
    unfold rightName at h1
    rw [Bool.and_eq_true, decide_eq_true_eq, decide_eq_true_eq] at h1
    exact h1.2
/-- What is all safe is left whole. -/
theorem crash_whole : ∀ (xs : List (List UInt8 × List UInt8)) (ks : List Bool), crashAll (xs.map toPF) ks = (xs, ks) := by
  intro xs
  induction xs with
  | nil => intro ks; rfl
  | cons x xs ih =>
    intro ks
    have h1 : crashFile (toPF x) ks = (x.2, ks) := by
      unfold crashFile
      simp [crashRun, toPF]
    simp only [List.map_cons, crashAll, h1, ih]
    rfl
theorem wait_whole (xs : List (List UInt8 × List UInt8)) : waitOf (xs.map toPF) = 0 := by
  unfold waitOf
  induction xs with
  | nil => rfl
  | cons x xs ih => simp only [List.map_cons, List.sum_cons, ih]; simp [toPF]

/-- One step of a script. -/
def PD.play (d : PD) (o : Op6) : PD :=
  if o.kind = 1 then (d.append o.name o.b).2 else if o.kind = 2 then (d.sync o.name).2 else if o.kind = 3 then (d.truncate o.name o.n).2 else if o.kind = 5 then d.arm o.n else d
theorem Fit.play {d : PD} {M : Nat} (h : Fit d M) (o : Op6) (hn : o.n ≤ 9223372036854775807) : Fit (d.play o) (M + o.b.length) := by
  unfold PD.play
  split
  · exact h.append _ _
  · split
    · exact (h.sync _).le (Nat.le_add_right _ _)
    · split
      · exact (h.truncate _ _).le (Nat.le_add_right _ _)
      · split
        · exact (h.arm' _ hn).le (Nat.le_add_right _ _)
        · exact h.le (Nat.le_add_right _ _)
end B
end Go.Proofs.Ytlofcomnhecgfaa
