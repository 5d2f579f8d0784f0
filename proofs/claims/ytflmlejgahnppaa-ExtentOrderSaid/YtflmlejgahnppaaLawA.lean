/- The laws' live question: what it comes to. No memory. -/
import Derived.Test.YtflmlejgahnppaaRef
import Derived.Test.YtflmlejgahnppaaPExtx5
namespace Go.Proofs.Ytflmlejgahnppaa.PExt
open Go.RowKit Go.Sort Go.Proofs.YtflmlejgahnppaaW.PrintWords Go.Proofs.YtflmlejgahnppaaW.PrintLast Go.Proofs.YtflmlejgahnppaaW.PrintMore

theorem sortX_eq {s m : Int} {l l' : List S23} (p : l.Perm l') (h : Good s m l) (hs : l'.Pairwise (fun x y => x.f0 ≤ y.f0)) : sortX l = l' := by
  have e : sortX l = sortX l' := sortX_unique p h
  rw [e]
  have hp : (sortX l').Perm l' := sortX_perm l'
  have hg : Good s m (sortX l') := (h.perm p).perm (sortX_perm l').symm
  refine hp.eq_of_pairwise (le := fun x y => x.f0 ≤ y.f0) ?_ (sortX_sorted l') hs
  intro x y hx hy hxy hyx
  have hy' : y ∈ sortX l' := hp.mem_iff.2 hy
  by_cases e : x = y
  · exact e
  · exfalso
    have hap : apartP x y := by
      rcases List.mem_iff_getElem.1 hx with ⟨i, hi, rfl⟩
      rcases List.mem_iff_getElem.1 hy' with ⟨j, hj, rfl⟩
      have hpw := List.pairwise_iff_getElem.1 hg.2.2
      rcases Nat.lt_trichotomy i j with h | h | h
      · exact hpw i j hi hj h
      · subst h; exact absurd rfl e
      · exact (hpw j i hj hi h).symm
    have h1 := (hg.2.1 x hx).1
    have h2 := (hg.2.1 y hy').1
    rcases hap with a | a <;> omega

theorem good_two : Good 10 20 [⟨20, 6⟩, ⟨12, 5⟩] := by
  refine ⟨⟨by decide, by decide, by decide, by decide⟩, ?_, ?_⟩
  · intro x hx
    simp only [List.mem_cons, List.not_mem_nil, or_false] at hx
    rcases hx with rfl | rfl <;> exact ⟨by decide, by decide, by decide⟩
  · simp [apartP]
theorem good_one : Good 10 20 [⟨12, 5⟩] := by
  refine ⟨⟨by decide, by decide, by decide, by decide⟩, ?_, by simp⟩
  intro x hx
  simp only [List.mem_cons, List.not_mem_nil, or_false] at hx
  subst hx; exact ⟨by decide, by decide, by decide⟩
theorem good_none : Good 10 20 [] := ⟨⟨by decide, by decide, by decide, by decide⟩, by simp, by simp⟩

theorem gaps_two : gapsR 10 20 [⟨20, 6⟩, ⟨12, 5⟩] = [⟨10, 2⟩, ⟨17, 3⟩, ⟨26, 4⟩] := by
  unfold gapsR
  rw [sortX_eq (l' := [⟨12, 5⟩, ⟨20, 6⟩]) (List.Perm.swap _ _ _) good_two (by simp)]
  simp [gapsE, gapsM]
theorem gaps_none : gapsR 10 20 [] = [⟨10, 20⟩] := by
  unfold gapsR
  rw [sortX_eq (l' := []) (List.Perm.refl _) good_none (by simp)]
  simp [gapsE, gapsM]

theorem alive_ev : Ev (fun k => oakumlaw11_alive.f k) true := by
  unfold oakumlaw11_alive.f
  have f1 : fitA 10 20 4 [⟨20, 6⟩, ⟨12, 5⟩] = (26, 4, 0) := by rw [fitA_good (by decide) good_two, gaps_two]; decide
  have f2 : gapsA 10 20 [⟨20, 6⟩, ⟨12, 5⟩] = ([⟨10, 2⟩, ⟨17, 3⟩, ⟨26, 4⟩], 0) := by rw [gapsA_good good_two, gaps_two]
  have f3 : fitA 10 20 21 [] = (0, 0, 111) := by rw [fitA_good (by decide) good_none, gaps_none]; decide
  have f4 : freeA 10 20 [⟨12, 5⟩] = 15 := by unfold freeA; rw [if_pos good_one]; decide
  refine Ev.bind (Fit_ev (good_fine good_two) (by decide)) ?_
  refine Ev.bind (Gaps_ev (good_fine good_two) (by decide)) ?_
  refine Ev.bind (Fit_ev (good_fine good_none) (by decide)) ?_
  rw [f1, f2, f3]
  refine Ev.congr (f := fun k => (extent_Free.f k 10 20 [(⟨12, 5⟩ : S23)]).bind fun t => some (t == 15)) (fun k => ?_) ?_
  · rfl
  · refine Ev.bind (Free_ev (good_fine good_one) (by decide)) ?_
    rw [f4]
    exact Ev.now _
end Go.Proofs.Ytflmlejgahnppaa.PExt
