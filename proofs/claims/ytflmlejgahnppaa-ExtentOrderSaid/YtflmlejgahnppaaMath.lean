/- Extents as numbers: what sorting, chains, gaps and sums come to. No program, no memory. -/
import Derived.Test.YtflmlejgahnppaaSort
namespace Go.Proofs.Ytflmlejgahnppaa.PExt
open Go.RowKit Go.Sort

def xe (x : S23) : Int := x.f0 + x.f1
def okS (s m : Int) (x : S23) : Prop := 1 ≤ x.f1 ∧ s ≤ x.f0 ∧ x.f0 + x.f1 ≤ s + m
def apartP (x y : S23) : Prop := x.f0 + x.f1 ≤ y.f0 ∨ y.f0 + y.f1 ≤ x.f0
def smallR (s m : Int) : Prop := 0 ≤ s ∧ s ≤ 1048576 ∧ 0 ≤ m ∧ m ≤ 1048576
def Good (s m : Int) (l : List S23) : Prop := smallR s m ∧ (∀ x ∈ l, okS s m x) ∧ l.Pairwise apartP
def In64 (a : Int) : Prop := -9223372036854775808 ≤ a ∧ a ≤ 9223372036854775807
def Fine (l : List S23) : Prop := ∀ x ∈ l, In64 x.f0 ∧ In64 x.f1

theorem apartP.symm {x y : S23} (h : apartP x y) : apartP y x := h.elim .inr .inl
theorem Good.perm {s m : Int} {l l' : List S23} (p : l.Perm l') (h : Good s m l) : Good s m l' :=
  ⟨h.1, fun x hx => h.2.1 x (p.mem_iff.2 hx), (p.pairwise_iff apartP.symm).1 h.2.2⟩
theorem Good.perm_iff {s m : Int} {l l' : List S23} (p : l.Perm l') : Good s m l ↔ Good s m l' := ⟨Good.perm p, Good.perm p.symm⟩
theorem Fine.perm {l l' : List S23} (p : l.Perm l') (h : Fine l) : Fine l' := fun x hx => h x (p.mem_iff.2 hx)

/-! ### the sort -/
theorem sortX_perm (l : List S23) : (sortX l).Perm l := by
  obtain ⟨hs, _, hp⟩ := (sortX_spec l).1
  unfold sortX
  have e1 : (pdq (ltOf cfX) l.toArray 0 l.length (Lib.bitLen l.length) true true).extract 0 l.length = pdq (ltOf cfX) l.toArray 0 l.length (Lib.bitLen l.length) true true := by
    apply Array.extract_eq_self_of_le
    simp [hs]
  have e2 : l.toArray.extract 0 l.length = l.toArray := by
    apply Array.extract_eq_self_of_le
    simp
  rw [e1, e2] at hp
  exact hp
theorem sortX_sorted (l : List S23) : (sortX l).Pairwise (fun x y => x.f0 ≤ y.f0) := by
  have h := (sortX_spec l).2
  have hl := sortX_length l
  rw [List.pairwise_iff_getElem]
  intro i j hi hj hij
  have h1 := h i j (Nat.zero_le _) hij (by omega)
  rw [ltX] at h1
  have hs : (pdq (ltOf cfX) l.toArray 0 l.length (Lib.bitLen l.length) true true).size = l.length := by simpa [sortX] using hl
  rw [getElem!_pos _ i (by omega), getElem!_pos _ j (by omega)] at h1
  simp only [sortX, Array.getElem_toList]
  simpa using h1

/-! ### chains -/
def chainM (s m : Int) : Int → List S23 → Prop
  | _, [] => True
  | a, x :: xs => 1 ≤ x.f1 ∧ a ≤ x.f0 ∧ x.f0 - s ≤ m ∧ x.f1 ≤ m - (x.f0 - s) ∧ chainM s m (x.f0 + x.f1) xs
theorem chainM_low {s m : Int} {xs : List S23} : ∀ {a : Int}, chainM s m a xs → ∀ x ∈ xs, a ≤ x.f0 ∧ 1 ≤ x.f1 ∧ x.f0 + x.f1 ≤ s + m := by
  induction xs with
  | nil => intro a _ x hx; cases hx
  | cons y ys ih =>
    intro a h x hx
    obtain ⟨h1, h2, h3, h4, h5⟩ := h
    rcases List.mem_cons.1 hx with rfl | hx
    · exact ⟨h2, h1, by omega⟩
    · obtain ⟨k1, k2, k3⟩ := ih h5 x hx
      exact ⟨by omega, k2, k3⟩
theorem chainM_pair {s m : Int} {xs : List S23} : ∀ {a : Int}, chainM s m a xs → xs.Pairwise (fun x y => x.f0 + x.f1 ≤ y.f0) := by
  induction xs with
  | nil => intro a _; exact List.Pairwise.nil
  | cons y ys ih =>
    intro a h
    exact List.pairwise_cons.2 ⟨fun x hx => (chainM_low h.2.2.2.2 x hx).1, ih h.2.2.2.2⟩
theorem chainM_of {s m : Int} {xs : List S23} : ∀ {a : Int}, (∀ x ∈ xs, a ≤ x.f0 ∧ okS s m x) → xs.Pairwise (fun x y => x.f0 + x.f1 ≤ y.f0) → chainM s m a xs := by
  induction xs with
  | nil => intro a _ _; trivial
  | cons y ys ih =>
    intro a h p
    obtain ⟨p1, p2⟩ := List.pairwise_cons.1 p
    obtain ⟨h1, h2, h3, h4⟩ := h y List.mem_cons_self
    exact ⟨h2, h1, by omega, by omega, ih (fun x hx => ⟨p1 x hx, (h x (List.mem_cons_of_mem _ hx)).2⟩) p2⟩
theorem sorted_apart {xs : List S23} (h1 : ∀ x ∈ xs, 1 ≤ x.f1) (hs : xs.Pairwise (fun x y => x.f0 ≤ y.f0)) (ha : xs.Pairwise apartP) : xs.Pairwise (fun x y => x.f0 + x.f1 ≤ y.f0) := by
  refine List.Pairwise.imp_of_mem ?_ (hs.and ha)
  rintro x y hx hy ⟨h, a | a⟩
  · exact a
  · have := h1 y hy; omega
theorem chain_good {s m : Int} {l : List S23} (hr : smallR s m) : chainM s m s (sortX l) ↔ Good s m l := by
  rw [Good.perm_iff (sortX_perm l).symm]
  constructor
  · intro h
    refine ⟨hr, fun x hx => ?_, (chainM_pair h).imp (fun h => .inl h)⟩
    obtain ⟨a, b, c⟩ := chainM_low h x hx
    exact ⟨b, a, c⟩
  · rintro ⟨_, h1, h2⟩
    exact chainM_of (fun x hx => ⟨(h1 x hx).2.1, h1 x hx⟩) (sorted_apart (fun x hx => (h1 x hx).1) (sortX_sorted l) h2)

/-- Two orders of one row that may be used are sorted alike. -/
theorem sortX_unique {s m : Int} {l l' : List S23} (p : l.Perm l') (h : Good s m l) : sortX l = sortX l' := by
  have hp : (sortX l).Perm (sortX l') := (sortX_perm l).trans (p.trans (sortX_perm l').symm)
  have hg : Good s m (sortX l) := h.perm (sortX_perm l).symm
  refine hp.eq_of_pairwise (le := fun x y => x.f0 ≤ y.f0) ?_ (sortX_sorted l) (sortX_sorted l')
  intro x y hx hy hxy hyx
  have hy' : y ∈ sortX l := hp.mem_iff.2 hy
  by_cases e : x = y
  · exact e
  · exfalso
    have hap : apartP x y := by
      have := hg.2.2
      rcases List.mem_iff_getElem.1 hx with ⟨i, hi, rfl⟩
      rcases List.mem_iff_getElem.1 hy' with ⟨j, hj, rfl⟩
      have hpw := List.pairwise_iff_getElem.1 hg.2.2
      rcases Nat.lt_trichotomy i j with h | h | h
      · exact hpw i j hi hj h
      · subst h; exact absurd rfl e
      · exact (hpw j i hj hi h).symm
    have h1 := (hg.2.1 x hx).1
    have h2 := (hg.2.1 y hy').1
    rcases hap with a | a <;> omega

/-! ### gaps -/
def gapsM : Int → List S23 → List S23
  | _, [] => []
  | a, x :: xs => (if a < x.f0 then [⟨a, x.f0 - a⟩] else []) ++ gapsM (x.f0 + x.f1) xs
def sumF (l : List S23) : Int := (l.map (·.f1)).sum
theorem sumF_append (a b : List S23) : sumF (a ++ b) = sumF a + sumF b := by simp [sumF, List.sum_append]
theorem sumF_cons (x : S23) (l : List S23) : sumF (x :: l) = x.f1 + sumF l := by simp [sumF]
theorem sumF_perm {l l' : List S23} (p : l.Perm l') : sumF l = sumF l' := by
  induction p with
  | nil => rfl
  | cons x _ ih => rw [sumF_cons, sumF_cons, ih]
  | swap x y l => rw [sumF_cons, sumF_cons, sumF_cons, sumF_cons]; omega
  | trans _ _ h1 h2 => exact h1.trans h2

/-- The gaps of a row behind a, up to e. -/
def gapsE (a e : Int) (xs : List S23) : List S23 := gapsM a (xs ++ [⟨e, 0⟩])
theorem gapsE_nil (a e : Int) : gapsE a e [] = if a < e then [⟨a, e - a⟩] else [] := by
  unfold gapsE; simp only [List.nil_append, gapsM, List.append_nil]
theorem gapsE_cons (a e : Int) (x : S23) (xs : List S23) : gapsE a e (x :: xs) = (if a < x.f0 then [⟨a, x.f0 - a⟩] else []) ++ gapsE (x.f0 + x.f1) e xs := rfl
theorem gapsE_sum {s m : Int} {xs : List S23} : ∀ {a : Int}, a ≤ s + m → chainM s m a xs → sumF (gapsE a (s + m) xs) + sumF xs = s + m - a := by
  induction xs with
  | nil =>
    intro a ha _
    rw [gapsE_nil]
    by_cases h : a < s + m
    · rw [if_pos h]; simp [sumF]
    · rw [if_neg h]; simp [sumF]; omega
  | cons x xs ih =>
    intro a ha h
    have hx := ih (by have := h.2.2.2.1; omega) h.2.2.2.2
    rw [gapsE_cons, sumF_append]
    have e : sumF (x :: xs) = x.f1 + sumF xs := by simp [sumF]
    rw [e]
    have h2 := h.2.1
    by_cases hc : a < x.f0
    · rw [if_pos hc]
      have : sumF [(⟨a, x.f0 - a⟩ : S23)] = x.f0 - a := by simp [sumF]
      omega
    · rw [if_neg hc]
      have : sumF ([] : List S23) = 0 := rfl
      omega
theorem gapsE_in {s m : Int} {xs : List S23} : ∀ {a : Int}, a ≤ s + m → chainM s m a xs → ∀ g ∈ gapsE a (s + m) xs, 1 ≤ g.f1 ∧ a ≤ g.f0 ∧ g.f0 + g.f1 ≤ s + m ∧ ∀ x ∈ xs, apartP g x := by
  induction xs with
  | nil =>
    intro a ha _ g hg
    rw [gapsE_nil] at hg
    split at hg
    · simp at hg; subst hg; exact ⟨by simp; omega, by simp, by simp; omega, by simp⟩
    · cases hg
  | cons x xs ih =>
    intro a ha h g hg
    obtain ⟨h1, h2, h3, h4, h5⟩ := h
    rw [gapsE_cons, List.mem_append] at hg
    rcases hg with hg | hg
    · split at hg
      · simp at hg; subst hg
        refine ⟨by simp; omega, by simp, by simp; omega, fun y hy => ?_⟩
        rcases List.mem_cons.1 hy with rfl | hy
        · exact .inl (by simp; omega)
        · have := (chainM_low h5 y hy).1
          exact .inl (by simp; omega)
      · cases hg
    · obtain ⟨k1, k2, k3, k4⟩ := ih (by omega) h5 g hg
      refine ⟨k1, by omega, k3, fun y hy => ?_⟩
      rcases List.mem_cons.1 hy with rfl | hy
      · exact .inr (by omega)
      · exact k4 y hy
theorem gapsE_pair {s m : Int} {xs : List S23} : ∀ {a : Int}, a ≤ s + m → chainM s m a xs → (gapsE a (s + m) xs).Pairwise apartP := by
  induction xs with
  | nil =>
    intro a _ _
    rw [gapsE_nil]
    split <;> simp
  | cons x xs ih =>
    intro a ha h
    obtain ⟨h1, h2, h3, h4, h5⟩ := h
    rw [gapsE_cons, List.pairwise_append]
    refine ⟨by split <;> simp, ih (by omega) h5, fun g hg g' hg' => ?_⟩
    split at hg
    · simp at hg; subst hg
      have := (gapsE_in (by omega) h5 g' hg').2.1
      exact .inl (by simp; omega)
    · cases hg
theorem gapsE_length {s m : Int} {xs : List S23} : ∀ {a : Int}, (gapsE a (s + m) xs).length ≤ xs.length + 1 := by
  induction xs with
  | nil => intro a; rw [gapsE_nil]; split <;> simp
  | cons x xs ih =>
    intro a
    rw [gapsE_cons, List.length_append]
    have := ih (a := x.f0 + x.f1)
    split <;> simp <;> omega

/-- The gaps of extents in a region. -/
def gapsR (s m : Int) (l : List S23) : List S23 := gapsE s (s + m) (sortX l)
theorem gapsR_sum {s m : Int} {l : List S23} (h : Good s m l) : sumF (gapsR s m l) = m - sumF l := by
  have := gapsE_sum (a := s) (by have := h.1; unfold smallR at this; omega) ((chain_good h.1).2 h)
  rw [sumF_perm (sortX_perm l)] at this
  unfold gapsR; omega
theorem good_with_gaps {s m : Int} {l : List S23} (h : Good s m l) : Good s m (l ++ gapsR s m l) := by
  have hs : s ≤ s + m := by have := h.1; unfold smallR at this; omega
  have hc := (chain_good h.1).2 h
  refine ⟨h.1, fun x hx => ?_, List.pairwise_append.2 ⟨h.2.2, gapsE_pair hs hc, fun x hx g hg => ?_⟩⟩
  · rcases List.mem_append.1 hx with hx | hx
    · exact h.2.1 x hx
    · obtain ⟨a, b, c, _⟩ := gapsE_in hs hc x hx
      exact ⟨a, b, c⟩
  · exact ((gapsE_in hs hc g hg).2.2.2 x ((sortX_perm l).mem_iff.2 hx)).symm
theorem good_with_fit {s m n : Int} {l : List S23} (h : Good s m l) (hn : 1 ≤ n) {g : S23} (hg : g ∈ gapsR s m l) (hgn : n ≤ g.f1) : Good s m (l ++ [⟨g.f0, n⟩]) := by
  have hs : s ≤ s + m := by have := h.1; unfold smallR at this; omega
  have hc := (chain_good h.1).2 h
  obtain ⟨a, b, c, d⟩ := gapsE_in hs hc g hg
  refine ⟨h.1, fun x hx => ?_, List.pairwise_append.2 ⟨h.2.2, by simp, fun x hx y hy => ?_⟩⟩
  · rcases List.mem_append.1 hx with hx | hx
    · exact h.2.1 x hx
    · simp at hx; subst hx; exact ⟨hn, b, by simp; omega⟩
  · simp at hy; subst hy
    rcases d x ((sortX_perm l).mem_iff.2 hx) with k | k
    · exact .inr (by simp; omega)
    · exact .inl k
theorem good_small {s m : Int} {l : List S23} (h : Good s m l) : ∀ x ∈ l, 1 ≤ x.f1 ∧ x.f1 ≤ 1048576 ∧ 0 ≤ x.f0 ∧ x.f0 ≤ 2097152 := fun x hx => by
  have h1 := h.1
  have h2 := h.2.1 x hx
  unfold smallR at h1; unfold okS at h2
  omega
theorem good_fine {s m : Int} {l : List S23} (h : Good s m l) : Fine l := fun x hx => by
  have := good_small h x hx
  exact ⟨⟨by omega, by omega⟩, ⟨by omega, by omega⟩⟩
theorem sumF_good {s m : Int} {l : List S23} (h : Good s m l) : 0 ≤ sumF l ∧ sumF l ≤ m := by
  have h1 := gapsR_sum h
  have h2 : ∀ k : List S23, (∀ x ∈ k, 1 ≤ x.f1) → 0 ≤ sumF k := by
    intro k hk
    induction k with
    | nil => simp [sumF]
    | cons y ys ih =>
      have e : sumF (y :: ys) = y.f1 + sumF ys := by simp [sumF]
      have := ih (fun x hx => hk x (List.mem_cons_of_mem _ hx))
      have := hk y List.mem_cons_self
      omega
  have hs : s ≤ s + m := by have := h.1; unfold smallR at this; omega
  have h3 := h2 (gapsR s m l) (fun g hg => (gapsE_in hs ((chain_good h.1).2 h) g hg).1)
  have h4 := h2 l (fun x hx => (h.2.1 x hx).1)
  omega

end Go.Proofs.Ytflmlejgahnppaa.PExt
