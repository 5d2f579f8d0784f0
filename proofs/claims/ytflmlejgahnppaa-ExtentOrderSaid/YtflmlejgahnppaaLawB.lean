/- What the laws of telling and of the whole come to, at every input: true. No memory. -/
import Derived.Test.YtflmlejgahnppaaLawA
import Derived.Test.YtflmlejgahnppaaPExtx12
import Derived.Test.YtflmlejgahnppaaPExtx13
namespace Go.Proofs.Ytflmlejgahnppaa.PExt
open Go.RowKit Go.Sort Go.Proofs.YtflmlejgahnppaaW.PrintWords Go.Proofs.YtflmlejgahnppaaW.PrintLast Go.Proofs.YtflmlejgahnppaaW.PrintMore

theorem alive_some : Ev (fun k => (oakumlaw11_alive.f k).bind fun t => some t) true := Ev.bind alive_ev (Ev.now _)

/-! ### ExtentTells -/
theorem tells_ev {s m n : Int} {l : List S23} (hf : Fine l) (hlen : l.length ≤ 8796093021952) : Ev (fun k => oakumlaw11_ExtentTells.f k s m l n) true := by
  have base : Ev (fun k => oakumlaw11_ExtentTells.j0 k l n true s m) true := Ev.step (fun k => by simp only [oakumlaw11_ExtentTells.j0]; exact if_pos (by trivial)) alive_some
  unfold oakumlaw11_ExtentTells.f
  by_cases h20 : (l.length : Int) > 20
  · exact Ev.congr (fun k => if_pos h20) base
  · have main : Ev (fun k => oakumlaw11_ExtentTells.j0 k l n false s m) true := by
      have h1000 : l.length ≤ 1000 := by omega
      refine Ev.step (fun k => by simp only [oakumlaw11_ExtentTells.j0]; exact if_neg (by decide)) ?_
      refine Ev.bind (Gaps_ev hf hlen) ?_
      refine Ev.bind (refGaps_ev hf h1000) ?_
      refine Ev.bind (Fit_ev hf hlen) ?_
      refine Ev.bind (refFit_ev hf h1000) ?_
      have hg : (gapsA s m l).1.length ≤ 1000000 := by
        by_cases h : Good s m l
        · rw [gapsA_good h]; have := gapsR_length (s := s) (m := m) (l := l); show (gapsR s m l).length ≤ _; omega
        · rw [gapsA_bad h]; decide
      refine Ev.bind (same_ev hg) ?_
      refine Ev.bind alive_ev ?_
      refine Ev.congr (fun k => by rw [if_pos rfl, if_pos rfl, if_pos rfl, if_pos (by simp), if_pos rfl]) ?_
      refine Ev.bind (Right_ev hf hlen) ?_
      refine Ev.bind (refRight_ev hf h1000) ?_
      refine Ev.congr (fun k => by rw [if_pos (by simp)]) ?_
      refine Ev.bind (Free_ev hf hlen) ?_
      refine Ev.bind (refFree_ev hf h1000) ?_
      simp only [BEq.rfl]
      exact Ev.now _
    by_cases hm : m > 3000
    · by_cases hd : m ≤ 1048576
      · exact Ev.congr (fun k => by rw [if_neg h20, if_pos hm, decide_eq_true hd]) base
      · exact Ev.congr (fun k => by rw [if_neg h20, if_pos hm, decide_eq_false hd]) main
    · exact Ev.congr (fun k => by rw [if_neg h20, if_neg hm]) main

/-! ### ExtentWhole -/
def roomP (n : Int) (gs : List S23) (i : Nat) : Prop := 1 ≤ n ∧ ∃ j : Nat, j < i ∧ n ≤ (rd_T23 gs j).f1
open Classical in
noncomputable def roomB (n : Int) (gs : List S23) (i : Nat) : Bool := decide (roomP n gs i)
theorem roomB_true {n : Int} {gs : List S23} {i : Nat} : roomB n gs i = true ↔ roomP n gs i := by unfold roomB; simp
theorem roomB_false {n : Int} {gs : List S23} {i : Nat} (h : ¬ roomP n gs i) : roomB n gs i = false := by unfold roomB; simp [h]

theorem whole_loop {l gs : List S23} {n f s m x y : Int} (hgs : gs.length ≤ 1000) (hend : Ev (fun k => oakumlaw11_ExtentWhole.l0 k l n gs f (roomB n gs gs.length) ((gs.length : Nat) : Int) s m x y) true) :
    ∀ (d i : Nat), i + d = gs.length → Ev (fun k => oakumlaw11_ExtentWhole.l0 k l n gs f (roomB n gs i) (i : Int) s m x y) true := by
  intro d
  induction d with
  | zero => intro i hi; have : i = gs.length := by omega
            subst this; exact hend
  | succ d ih =>
    intro i hi
    have hk := ih (i + 1) (by omega)
    have hw : wrap64 ((i : Int) + 1) = ((i + 1 : Nat) : Int) := by rw [w64 (by omega) (by omega)]; omega
    by_cases hr : roomP n gs i
    · have e1 := roomB_true.2 hr
      have e2 : roomB n gs (i + 1) = true := roomB_true.2 ⟨hr.1, by obtain ⟨j, h1, h2⟩ := hr.2; exact ⟨j, by omega, h2⟩⟩
      rw [e2] at hk; rw [e1]
      exact Ev.step (fun k => by simp only [oakumlaw11_ExtentWhole.l0]; rw [if_pos (by omega), if_pos (by trivial), hw]) hk
    · have e1 := roomB_false hr
      rw [e1]
      by_cases hn : n ≥ 1
      · have e2 : roomB n gs (i + 1) = decide ((rd_T23 gs (i : Int)).f1 ≥ n) := by
          by_cases hx : (rd_T23 gs (i : Int)).f1 ≥ n
          · rw [decide_eq_true hx]; exact roomB_true.2 ⟨hn, i, by omega, hx⟩
          · rw [decide_eq_false hx]
            refine roomB_false (fun hh => ?_)
            obtain ⟨_, j, h1, h2⟩ := hh
            by_cases hj : j = i
            · subst hj; exact hx h2
            · exact hr ⟨hn, j, by omega, h2⟩
        rw [e2] at hk
        exact Ev.step (fun k => by simp only [oakumlaw11_ExtentWhole.l0]; rw [if_pos (by omega), if_neg (by decide), if_pos hn, if_pos (by omega), hw]) hk
      · have e2 : roomB n gs (i + 1) = false := roomB_false (fun hh => hn hh.1)
        rw [e2] at hk
        exact Ev.step (fun k => by simp only [oakumlaw11_ExtentWhole.l0]; rw [if_pos (by omega), if_neg (by decide), if_neg hn, hw]) hk

theorem room_all {n : Int} {gs : List S23} : roomP n gs gs.length ↔ 1 ≤ n ∧ ∃ g ∈ gs, n ≤ g.f1 := by
  constructor
  · rintro ⟨h, j, hj, hx⟩
    rw [rd_at hj] at hx
    exact ⟨h, gs[j], List.getElem_mem hj, hx⟩
  · rintro ⟨h, g, hg, hx⟩
    obtain ⟨j, hj, rfl⟩ := List.mem_iff_getElem.1 hg
    exact ⟨h, j, hj, by rw [rd_at hj]; exact hx⟩

theorem whole_end {s m n : Int} {l : List S23} (h : Good s m l) (h20 : l.length ≤ 20) : Ev (fun k => oakumlaw11_ExtentWhole.l0 k l n (gapsR s m l) (fitA s m n l).2.2 (roomB n (gapsR s m l) (gapsR s m l).length) (((gapsR s m l).length : Nat) : Int) s m (fitA s m n l).1 (fitA s m n l).2.1) true := by
  have hgl := gapsR_length (s := s) (m := m) (l := l)
  have hall := good_with_gaps h
  have hs := sumF_good h
  have hr := h.1
  unfold smallR at hr
  have hfree : freeA s m l = m - sumF l := by unfold freeA; rw [if_pos h]
  have hlast : (((fitA s m n l).2.2 == 0) == roomB n (gapsR s m l) (gapsR s m l).length) = true →
      Ev (fun k => oakumlaw11_ExtentWhole.j2 k (fitA s m n l).2.2 (roomB n (gapsR s m l) (gapsR s m l).length) (l ++ gapsR s m l) false s m) true := by
    intro hroom
    refine Ev.step (fun k => by simp only [oakumlaw11_ExtentWhole.j2]; exact if_neg (by decide)) ?_
    refine Ev.bind alive_ev ?_
    refine Ev.congr (fun k => by rw [if_pos rfl, if_pos hroom]) ?_
    have hl2 : (l ++ gapsR s m l).length ≤ 8796093021952 := by rw [List.length_append]; omega
    refine Ev.bind (Right_ev (good_fine hall) hl2) ?_
    refine Ev.congr (fun k => by rw [if_pos (goodB_true.2 hall)]) ?_
    refine Ev.bind (Free_ev (good_fine hall) hl2) ?_
    have e0 : freeA s m (l ++ gapsR s m l) = 0 := by
      unfold freeA; rw [if_pos hall, sumF_append, gapsR_sum h]; omega
    rw [e0]
    exact Ev.now _
  refine Ev.step (fun k => by
    simp only [oakumlaw11_ExtentWhole.l0, Option.bind_some, List.nil_append, List.length_nil, Nat.zero_add]
    rw [if_neg (by omega), if_pos (by omega), if_pos (by omega), if_pos (by omega), if_pos (by omega)]) ?_
  refine Ev.bind (Free_ev (good_fine h) (by omega)) ?_
  by_cases hroom : 1 ≤ n ∧ ∃ g ∈ gapsR s m l, n ≤ g.f1
  · have hB : roomB n (gapsR s m l) (gapsR s m l).length = true := roomB_true.2 (room_all.2 hroom)
    have hfit : ∃ g ∈ gapsR s m l, n ≤ g.f1 ∧ fitA s m n l = (g.f0, n, 0) := by
      rw [fitA_good hroom.1 h]
      unfold fitOf
      cases hq : (gapsR s m l).find? (fun x => decide (n ≤ x.f1)) with
      | none => exact absurd hroom.2 (by rintro ⟨g, hg, hgn⟩; have := List.find?_eq_none.1 hq g hg; simp at this; omega)
      | some g => exact ⟨g, List.mem_of_find?_eq_some hq, by simpa using List.find?_some hq, rfl⟩
    obtain ⟨g, hg, hgn, hfe⟩ := hfit
    have hwith := good_with_fit h hroom.1 hg hgn
    have hl1 : (l ++ [(⟨g.f0, n⟩ : S23)]).length ≤ 8796093021952 := by rw [List.length_append]; simp; omega
    rw [hfe, hB] at hlast ⊢
    refine Ev.congr (fun k => by rw [if_pos rfl]) ?_
    refine Ev.bind (Right_ev (good_fine hwith) hl1) ?_
    refine Ev.congr (fun k => by rw [if_pos (goodB_true.2 hwith)]) ?_
    refine Ev.bind (Free_ev (good_fine hwith) hl1) ?_
    have e1 : freeA s m (l ++ [(⟨g.f0, n⟩ : S23)]) = m - sumF l - n := by
      unfold freeA; rw [if_pos hwith, sumF_append]; simp [sumF]; omega
    have hs2 := sumF_good hwith
    have e3 : sumF (l ++ [(⟨g.f0, n⟩ : S23)]) = sumF l + n := by rw [sumF_append]; simp [sumF]
    rw [e1, hfree, w64 (by omega) (by omega)]
    rw [show (m - sumF l - n != m - sumF l - n) = false by simp]
    exact hlast (by simp)
  · have hB : roomB n (gapsR s m l) (gapsR s m l).length = false := roomB_false (fun hh => hroom (room_all.1 hh))
    have hne : (fitA s m n l).2.2 ≠ 0 := by
      by_cases hn : 1 ≤ n
      · rw [fitA_good hn h, fitOf_none (fun p hp hpn => hroom ⟨hn, p, hp, hpn⟩)]; decide
      · rw [fitA_bad (fun hh => hn hh.1)]; decide
    rw [hB] at hlast ⊢
    refine Ev.congr (fun k => by rw [if_neg hne]) ?_
    exact hlast (by simp [hne])

theorem whole_ev {s m n : Int} {l : List S23} (hf : Fine l) (hlen : l.length ≤ 8796093021952) : Ev (fun k => oakumlaw11_ExtentWhole.f k s m l n) true := by
  have base : ∀ gs, Ev (fun k => oakumlaw11_ExtentWhole.j0 k l n gs true s m) true := fun gs => Ev.step (fun k => by simp only [oakumlaw11_ExtentWhole.j0]; exact if_pos (by trivial)) alive_some
  unfold oakumlaw11_ExtentWhole.f
  refine Ev.bind (Gaps_ev hf hlen) ?_
  by_cases h20 : (l.length : Int) > 20
  · exact Ev.congr (fun k => if_pos h20) (base _)
  · refine Ev.congr (fun k => if_neg h20) ?_
    by_cases h : Good s m l
    · rw [gapsA_good h]
      have hgl := gapsR_length (s := s) (m := m) (l := l)
      refine Ev.step (fun k => by simp only [oakumlaw11_ExtentWhole.j0]; exact if_neg (by simp)) ?_
      refine Ev.bind (Fit_ev hf hlen) ?_
      have e0 : roomB n (gapsR s m l) 0 = false := roomB_false (by rintro ⟨_, j, hj, _⟩; omega)
      have := whole_loop (by omega) (whole_end (n := n) h (by omega)) (gapsR s m l).length 0 (by omega)
      rw [e0] at this
      exact this
    · rw [gapsA_bad h]
      exact base _

end Go.Proofs.Ytflmlejgahnppaa.PExt
