/- What the printed functions on extents come to: the program's and the document's. No memory. -/
import Derived.Test.YtflmlejgahnppaaMath
import Derived.Test.YtflmlejgahnppaaFit
import Derived.Test.YtflmlejgahnppaaPExtx4
namespace Go.Proofs.Ytflmlejgahnppaa.PExt
open Go.RowKit Go.Sort Go.Proofs.YtflmlejgahnppaaW.PrintWords Go.Proofs.YtflmlejgahnppaaW.PrintLast Go.Proofs.YtflmlejgahnppaaW.PrintMore

theorem w64 {a : Int} (h1 : -9223372036854775808 ≤ a) (h2 : a ≤ 9223372036854775807) : wrap64 a = a := by unfold wrap64; omega
theorem rd_at {ys : List S23} {i : Nat} (h : i < ys.length) : rd_T23 ys (i : Int) = ys[i] := by
  unfold rd_T23
  rw [Int.toNat_natCast, List.getD_eq_getElem?_getD, List.getElem?_eq_getElem h]
  rfl
theorem drop_at {ys : List S23} {i : Nat} (h : i < ys.length) : ys.drop i = ys[i] :: ys.drop (i + 1) := List.drop_eq_getElem_cons h

/-! ### extent.Right -/
theorem right_loop {s m : Int} (hr : smallR s m) (ys : List S23) (hf : Fine ys) (hlen : ys.length ≤ 8796093022208) : ∀ (d i : Nat) (a : Int), i + d = ys.length → s ≤ a → a ≤ 4194304 →
    ∃ r, Ev (fun k => extent_Right.l0 k a ys (ys.length : Int) (i : Int) s m) r ∧ (r = true ↔ chainM s m a (ys.drop i)) := by
  unfold smallR at hr
  intro d
  induction d with
  | zero =>
    intro i a hi _ _
    refine ⟨true, Ev.step (f := fun _ => some true) (fun k => ?_) (Ev.now _), ?_⟩
    · simp only [extent_Right.l0]; rw [if_neg (by omega)]
    · rw [List.drop_of_length_le (by omega)]; simp [chainM]
  | succ d ih =>
    intro i a hi ha hb
    have hlt : i < ys.length := by omega
    obtain ⟨⟨p1, p2⟩, p3, p4⟩ := hf ys[i] (List.getElem_mem hlt)
    have fin : ∀ r, (∀ k, extent_Right.l0 (k + 1) a ys (ys.length : Int) (i : Int) s m = some r) → Ev (fun k => extent_Right.l0 k a ys (ys.length : Int) (i : Int) s m) r := fun r h => Ev.step (f := fun _ => some r) h (Ev.now _)
    have op : ∀ k, extent_Right.l0 (k + 1) a ys (ys.length : Int) (i : Int) s m = (if (ys[i].f1) < 1 then (some false) else (if (ys[i].f0) < a then (some false) else (if (wrap64 ((ys[i].f0) - s)) > m then (some false) else (if (ys[i].f1) > (wrap64 (m - (wrap64 ((ys[i].f0) - s)))) then (some false) else (extent_Right.l0 k (wrap64 ((ys[i].f0) + (ys[i].f1))) ys (ys.length : Int) (wrap64 ((i : Int) + 1)) s m))))) := by
      intro k
      simp only [extent_Right.l0]
      rw [if_pos (by omega), if_pos (by omega), if_pos (by omega), rd_at hlt]
    rw [drop_at hlt]
    by_cases c1 : ys[i].f1 < 1
    · exact ⟨false, fin _ (fun k => by rw [op, if_pos c1]), by simp [chainM]; omega⟩
    by_cases c2 : ys[i].f0 < a
    · exact ⟨false, fin _ (fun k => by rw [op, if_neg c1, if_pos c2]), by simp [chainM]; omega⟩
    have e1 : wrap64 (ys[i].f0 - s) = ys[i].f0 - s := w64 (by omega) (by omega)
    by_cases c3 : ys[i].f0 - s > m
    · exact ⟨false, fin _ (fun k => by rw [op, if_neg c1, if_neg c2, e1, if_pos c3]), by simp [chainM]; omega⟩
    have e2 : wrap64 (m - (ys[i].f0 - s)) = m - (ys[i].f0 - s) := w64 (by omega) (by omega)
    by_cases c4 : ys[i].f1 > m - (ys[i].f0 - s)
    · exact ⟨false, fin _ (fun k => by rw [op, if_neg c1, if_neg c2, e1, e2, if_neg c3, if_pos c4]), by simp [chainM]; omega⟩
    obtain ⟨r, hr', hri⟩ := ih (i + 1) (ys[i].f0 + ys[i].f1) (by omega) (by omega) (by omega)
    refine ⟨r, Ev.step (f := fun k => extent_Right.l0 k (ys[i].f0 + ys[i].f1) ys (ys.length : Int) ((i + 1 : Nat) : Int) s m) (fun k => ?_) hr', ?_⟩
    · rw [op, if_neg c1, if_neg c2, e1, e2, if_neg c3, if_neg c4, w64 (by omega) (by omega), w64 (by omega) (by omega)]
      rfl
    · rw [hri]
      simp only [chainM]
      exact ⟨fun h => ⟨by omega, by omega, by omega, by omega, h⟩, fun h => h.2.2.2.2⟩

theorem in_ev (a : Int) : extent_in.f a = some (decide (0 ≤ a ∧ a ≤ 1048576)) := by
  unfold extent_in.f
  by_cases h : a ≥ 0
  · rw [if_pos h]; simp [show 0 ≤ a from h]
  · rw [if_neg h]; simp; omega

open Classical in
noncomputable def goodB (s m : Int) (l : List S23) : Bool := decide (Good s m l)
theorem goodB_true {s m : Int} {l : List S23} : goodB s m l = true ↔ Good s m l := by unfold goodB; simp

theorem Right_ev {s m : Int} {l : List S23} (hf : Fine l) (hlen : l.length ≤ 8796093021952) : Ev (fun k => extent_Right.f k s m l) (goodB s m l) := by
  have nott : ¬ smallR s m → goodB s m l = false := fun h => by
    cases e : goodB s m l with
    | false => rfl
    | true => exact absurd (goodB_true.1 e).1 h
  by_cases h1 : 0 ≤ s ∧ s ≤ 1048576
  · by_cases h2 : 0 ≤ m ∧ m ≤ 1048576
    · have hr : smallR s m := ⟨h1.1, h1.2, h2.1, h2.2⟩
      obtain ⟨r, hr', hri⟩ := right_loop hr (sortX l) (hf.perm (sortX_perm l).symm) (by rw [sortX_length]; omega) (sortX l).length 0 s (by omega) (Int.le_refl _) (by omega)
      have e : goodB s m l = r := by
        rw [Bool.eq_iff_iff, goodB_true, hri, List.drop_zero]
        exact (chain_good hr).symm
      rw [e]
      refine Ev.congr (f := fun k => extent_Right.j0 k l false s m) (fun k => ?_) (Ev.step (f := fun k => extent_Right.l0 k s (sortX l) ((sortX l).length : Int) 0 s m) (fun k => ?_) hr')
      · unfold extent_Right.f
        rw [in_ev, in_ev]
        simp [h1, h2]
      · simp only [extent_Right.j0, extent_sorted.f]
        rw [if_pos hlen]
        simp
    · have e := nott (fun h => h2 ⟨h.2.2.1, h.2.2.2⟩)
      rw [e]
      refine Ev.congr (f := fun k => extent_Right.j0 k l true s m) (fun k => ?_) (Ev.step (f := fun _ => some false) (fun k => by simp [extent_Right.j0]) (Ev.now _))
      unfold extent_Right.f
      rw [in_ev, in_ev]
      simp [h1, h2]
  · have e := nott (fun h => h1 ⟨h.1, h.2.1⟩)
    rw [e]
    refine Ev.congr (f := fun k => extent_Right.j0 k l true s m) (fun k => ?_) (Ev.step (f := fun _ => some false) (fun k => by simp [extent_Right.j0]) (Ev.now _))
    unfold extent_Right.f
    rw [in_ev]
    simp [h1]

/-! ### extent.Gaps, Fit, Free -/
theorem gapsOf_eq {s m : Int} {xs : List S23} (hr : smallR s m) : ∀ {a : Int}, s ≤ a → a ≤ s + m → chainM s m a xs → gapsOf a (xs ++ [⟨s + m, 0⟩]) = gapsE a (s + m) xs := by
  unfold smallR at hr
  induction xs with
  | nil =>
    intro a h1 h2 _
    rw [gapsE_nil]
    simp only [List.nil_append, gapsOf, List.append_nil]
    by_cases h : a < s + m
    · rw [if_pos h, if_pos h, w64 (by omega) (by omega)]
    · rw [if_neg h, if_neg h]
  | cons x xs ih =>
    intro a h1 h2 h
    obtain ⟨k1, k2, k3, k4, k5⟩ := h
    rw [gapsE_cons, List.cons_append]
    simp only [gapsOf]
    rw [w64 (a := x.f0 + x.f1) (by omega) (by omega), ih (by omega) (by omega) k5]
    by_cases h : a < x.f0
    · rw [if_pos h, if_pos h, w64 (by omega) (by omega)]
    · rw [if_neg h, if_neg h]

theorem gapsOf_good {s m : Int} {l : List S23} (h : Good s m l) : gapsOf s (rowOf s m l) = gapsR s m l := by
  have hr := h.1
  have hc := (chain_good hr).2 h
  have hr' := hr
  unfold smallR at hr'
  unfold rowOf gapsR
  rw [w64 (by omega) (by omega)]
  exact gapsOf_eq hr (Int.le_refl _) (by omega) hc

open Classical in
noncomputable def gapsA (s m : Int) (l : List S23) : List S23 × Int := if Good s m l then (gapsR s m l, 0) else ([], 1)
theorem gapsA_good {s m : Int} {l : List S23} (h : Good s m l) : gapsA s m l = (gapsR s m l, 0) := by unfold gapsA; rw [if_pos h]
theorem gapsA_bad {s m : Int} {l : List S23} (h : ¬ Good s m l) : gapsA s m l = ([], 1) := by unfold gapsA; rw [if_neg h]
theorem goodB_false {s m : Int} {l : List S23} (h : ¬ Good s m l) : goodB s m l = false := by
  cases e : goodB s m l with
  | false => rfl
  | true => exact absurd (goodB_true.1 e) h

theorem Gaps_ev {s m : Int} {l : List S23} (hf : Fine l) (hlen : l.length ≤ 8796093021952) : Ev (fun k => extent_Gaps.f k s m l) (gapsA s m l) := by
  unfold extent_Gaps.f
  refine Ev.bind (Right_ev hf hlen) ?_
  by_cases h : Good s m l
  · rw [gapsA_good h]
    refine Ev.congr (f := fun _ => some (gapsR s m l, 0)) (fun k => ?_) (Ev.now _)
    rw [if_pos (goodB_true.2 h), if_pos hlen, gapsOf_good h]
  · rw [gapsA_bad h]
    refine Ev.congr (f := fun _ => some ([], 1)) (fun k => ?_) (Ev.now _)
    rw [goodB_false h]; rfl

open Classical in
noncomputable def fitA (s m n : Int) (l : List S23) : Int × Int × Int := if 1 ≤ n ∧ Good s m l then fitOf n (gapsR s m l) else (0, 0, 1)
theorem fitA_good {s m n : Int} {l : List S23} (hn : 1 ≤ n) (h : Good s m l) : fitA s m n l = fitOf n (gapsR s m l) := by unfold fitA; rw [if_pos ⟨hn, h⟩]
theorem fitA_bad {s m n : Int} {l : List S23} (h : ¬ (1 ≤ n ∧ Good s m l)) : fitA s m n l = (0, 0, 1) := by unfold fitA; rw [if_neg h]
theorem Fit_ev {s m n : Int} {l : List S23} (hf : Fine l) (hlen : l.length ≤ 8796093021952) : Ev (fun k => extent_Fit.f k s m n l) (fitA s m n l) := by
  unfold extent_Fit.f
  by_cases hn : n < 1
  · rw [fitA_bad (fun h => by omega)]
    refine Ev.congr (f := fun _ => some (0, 0, 1)) (fun k => by rw [if_pos hn]) (Ev.now _)
  · refine Ev.congr (f := fun k => (extent_Right.f k s m l).bind fun b => if b = true then (if l.length ≤ 8796093021952 then some (fitOf n (gapsOf s (rowOf s m l))) else none) else some (0, 0, 1)) (fun k => by rw [if_neg hn]) ?_
    refine Ev.bind (Right_ev hf hlen) ?_
    by_cases h : Good s m l
    · rw [fitA_good (by omega) h]
      refine Ev.congr (f := fun _ => some (fitOf n (gapsR s m l))) (fun k => ?_) (Ev.now _)
      rw [if_pos (goodB_true.2 h), if_pos hlen, gapsOf_good h]
    · rw [fitA_bad (fun k => h k.2)]
      refine Ev.congr (f := fun _ => some (0, 0, 1)) (fun k => ?_) (Ev.now _)
      rw [goodB_false h]; rfl

theorem free_loop (ys : List S23) (hlen : ys.length ≤ 8796093022208) (hs : ∀ x ∈ ys, 0 ≤ x.f1 ∧ x.f1 ≤ 1048576) : ∀ (d i : Nat) (a : Int), i + d = ys.length → 0 ≤ a - sumF (ys.drop i) → a ≤ 1048576 →
    Ev (fun k => extent_Free.l0 k a ys (ys.length : Int) (i : Int)) (a - sumF (ys.drop i)) := by
  intro d
  induction d with
  | zero =>
    intro i a hi _ _
    refine Ev.step (f := fun _ => some a) (fun k => ?_) ?_
    · simp only [extent_Free.l0]; rw [if_neg (by omega)]
    · rw [List.drop_of_length_le (by omega)]
      have : a - sumF ([] : List S23) = a := by simp [sumF]
      rw [this]; exact Ev.now _
  | succ d ih =>
    intro i a hi ha hb
    have hlt : i < ys.length := by omega
    have h1 := hs ys[i] (List.getElem_mem hlt)
    have hpos : 0 ≤ sumF (ys.drop (i + 1)) := by
      have : ∀ k : List S23, (∀ x ∈ k, 0 ≤ x.f1) → 0 ≤ sumF k := by
        intro k hk
        induction k with
        | nil => simp [sumF]
        | cons y ys ih2 =>
          rw [sumF_cons]
          have := ih2 (fun x hx => hk x (List.mem_cons_of_mem _ hx))
          have := hk y List.mem_cons_self
          omega
      exact this _ (fun x hx => (hs x (List.mem_of_mem_drop hx)).1)
    rw [drop_at hlt, sumF_cons] at ha ⊢
    have e : a - (ys[i].f1 + sumF (ys.drop (i + 1))) = (a - ys[i].f1) - sumF (ys.drop (i + 1)) := by omega
    rw [e] at ha ⊢
    refine Ev.step (f := fun k => extent_Free.l0 k (a - ys[i].f1) ys (ys.length : Int) ((i + 1 : Nat) : Int)) (fun k => ?_) (ih (i + 1) (a - ys[i].f1) (by omega) ha (by omega))
    simp only [extent_Free.l0]
    rw [if_pos (by omega), if_pos (by omega), if_pos (by omega), rd_at hlt, w64 (by omega) (by omega), w64 (by omega) (by omega)]
    rfl

open Classical in
noncomputable def freeA (s m : Int) (l : List S23) : Int := if Good s m l then m - sumF l else 0
theorem Free_ev {s m : Int} {l : List S23} (hf : Fine l) (hlen : l.length ≤ 8796093021952) : Ev (fun k => extent_Free.f k s m l) (freeA s m l) := by
  unfold extent_Free.f freeA
  refine Ev.bind (Right_ev hf hlen) ?_
  by_cases h : Good s m l
  · rw [if_pos h]
    have hr := h.1
    unfold smallR at hr
    refine Ev.congr (f := fun k => extent_Free.l0 k m l (l.length : Int) ((0 : Nat) : Int)) (fun k => by rw [if_pos (goodB_true.2 h)]; rfl) ?_
    have hs := sumF_good h
    exact free_loop l (by omega) (fun x hx => by have := good_small h x hx; omega) l.length 0 m (by omega) (by rw [List.drop_zero]; omega) (by omega)
  · rw [if_neg h]
    refine Ev.congr (f := fun _ => some 0) (fun k => ?_) (Ev.now _)
    rw [goodB_false h]; rfl

end Go.Proofs.Ytflmlejgahnppaa.PExt
